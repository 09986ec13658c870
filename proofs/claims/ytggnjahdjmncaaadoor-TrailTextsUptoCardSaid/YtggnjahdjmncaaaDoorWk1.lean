/- The walks. No condition. -/
import Derived.Test.YtggnjahdjmncaaaDoorPf
import Derived.Test.YtggnjahdjmncaaaDoorTy
set_option linter.unusedVariables false
set_option linter.unusedSimpArgs false
set_option maxRecDepth 20000
set_option maxHeartbeats 8000000
namespace Go.Proofs.YtggnjahdjmncaaaDoor
theorem F_slices_IndexFunc_int_int_w (p0 : List Int) (p1 : Int → Option Bool) (f1 : FuncId) (fi1 ca1 : List D) (hf1 : ∀ (x0 : Int) (G : Bool → Prop) (h : Heap), OptP (p1 x0) G → CallsA Tryd.prog f1 (fi1 ++ [.int .i64 x0] ++ ca1) h fun d h' => ∃ r, G r ∧ d = .bool r ∧ h' = h) {G : Int → Prop} (h : Heap) (hF : OptP (F_slices_IndexFunc_int_int p0 p1) G) : CallsA Tryd.prog 61 [.sl 1 (List.map c_i64 p0) 0, .fn (.func f1) fi1 ca1] h fun d h' => ∃ r, G r ∧ d = .int .i64 r ∧ h' = h := by
  refine CallsA.ret ?_
  refine C_body Tryd.func61 rfl en_61 Tryd.ntmps61 rfl (fun ok => ?_)
  rw [F_slices_IndexFunc_int_int] at hF
  refine C_seq ?_
  refine C_reg (mdl []) ?_
  refine S_a (v := .int _ _) rfl ?_
  refine S_nil ?_
  refine C_join hF (fun (_ : Unit) s' => OK h [] ∧ WS s' ⟨mkSl 19 [], Hp h []⟩) (fun J6 hF => ?_) ?_
  ·
    refine C_seq ?_
    refine C_reg (mdl []) ?_
    refine S_m (v := .sl _ _ _) rfl ?_
    refine S_lenL rfl ty_sl_22 ?_
    refine S_m (v := .int _ _) rfl ?_
    refine S_nil ?_
    refine WP_block ?_
    refine C_loop (σ := Int) hF (fun (a7 : Int) s' => OK h [] ∧ WS s' ⟨mkSl 19 [(0, .sl 1 (List.map c_i64 p0) 0), (1, .fn (.func f1) fi1 ca1), (7, .int .i64 (p0.length : Int)), (8, .int .i64 a7)], Hp h []⟩) ?_ ?_
    ·
      have hwo : WO [] [] := .nil
      exact ⟨(hwo.spec ok).1, WS.mk' (.cons (.refl _) (.cons (.refl _) (.cons (.refl _) (.cons (.refl _) .nil)))) ok hwo⟩
    ·
      rintro G8 hG9 rec10 a7 s' ih11 hF ⟨ok, hws⟩
      refine WP_ws hws ?_
      clear hws s'
      rw [F_slices_IndexFunc_int_int_l0] at hF
      refine C_seq ?_
      refine C_reg (mdl []) ?_
      refine S_bin rfl rfl (ev_lss ..) ?_
      refine S_nil ?_
      refine C_seq ?_
      refine C_if (b := (decide (a7 < (p0.length : Int)))) rfl hF (fun hb12 hF => ?_) (fun hb12 hF => ?_)
      ·
        refine WP_skip ?_
        refine C_seq ?_
        refine WP_block ?_
        refine C_seq ?_
        refine C_reg (mdl []) ?_
        refine S_m (v := .int _ _) rfl ?_
        refine S_a (v := .int _ _) rfl ?_
        refine S_nil ?_
        refine C_seq ?_
        refine C_reg (mdl []) ?_
        refine S_m (v := .fn (.func _) _ _) rfl ?_
        refine S_m (v := .sl _ _ _) rfl ?_
        refine S_m (v := .int _ _) rfl ?_
        refine S_ix rfl rfl ty_sl_22 ty_sz_3 hF (fun x13 _ hF => ?_)
        refine S_ldQ rfl (p_one ty_ag_3 ty_sz_3 rfl) ?_
        refine S_callV rfl (ok_of (enc := fun r => .bool r) (fun G h hF => hf1 x13 G h hF) _ hF fun x14 _ hF => ?_) (.app (.app (.refl _) (.cons (.refl _) (.nil))) (.refl _))
        refine S_nil ?_
        refine C_if (b := x14) rfl hF (fun hb15 hF => ?_) (fun hb15 hF => ?_)
        ·
          refine C_seq ?_
          refine C_reg (mdl []) ?_
          refine S_m (v := .int _ _) rfl ?_
          refine S_a (v := .int _ _) rfl ?_
          refine S_nil ?_
          refine WP_ret ?_
          replace hF := hG9 _ (F_some hF)
          repeat (first | with_reducible refine Exit.sel_ret ?_ | with_reducible refine Exit.blk_ret ?_)
          refine C_ret (fn := Tryd.f61) rfl (.tmp (v := .int .i64 a7) rfl .nil) ?_
          exact ⟨_, _, (.refl _), ok.wh, _, F_some hF, rfl, rfl⟩
        ·
          refine WP_skip ?_
          refine C_reg (mdl []) ?_
          refine S_bin rfl rfl (ev_add ..) ?_
          refine S_m (v := .int _ _) rfl ?_
          refine S_nil ?_
          refine ih11 (IntKind.wrap .i64 (a7 + (1 : Int))) _ hF ?_
          have hwo : WO [] [] := .nil
          exact ⟨(hwo.spec ok).1, WS.mk' (.cons (.refl _) (.cons (.refl _) (.cons (.refl _) (.cons (.refl _) .nil)))) ok hwo⟩
      ·
        refine WP_exit ?_
        simp only [Exit.sel, Exit.blk, if_true, if_false, reduceIte, Nat.reduceEqDiff, Nat.succ_ne_zero, Nat.zero_ne_one, Nat.one_ne_zero]
        replace hF := hG9 _ (F_some hF)
        have hwo : WO [] [] := .nil
        exact ⟨(), hF, (hwo.spec ok).1, WS.mk' .nil ok hwo⟩
  ·
    rintro ⟨⟩ s' hF ⟨ok, hws⟩
    refine WP_ws hws ?_
    clear hws s'
    refine C_seq ?_
    refine C_reg (mdl []) ?_
    refine S_a (v := .int _ _) rfl ?_
    refine S_nil ?_
    refine WP_ret ?_
    repeat (first | with_reducible refine Exit.sel_ret ?_ | with_reducible refine Exit.blk_ret ?_)
    refine C_ret (fn := Tryd.f61) rfl (.tmp (v := .int .i64 (-1 : Int)) rfl .nil) ?_
    exact ⟨_, _, (.refl _), ok.wh, _, F_some hF, rfl, rfl⟩
theorem F_slices_IndexFunc_int_int_ok {β : Type} {f : Int → Option β} {G : β → Prop} {R : D → Heap → Prop} {p0 : List Int} {p1 : Int → Option Bool} {f1 : FuncId} {fi1 ca1 : List D} (hf1 : ∀ (x0 : Int) (G : Bool → Prop) (h : Heap), OptP (p1 x0) G → CallsA Tryd.prog f1 (fi1 ++ [.int .i64 x0] ++ ca1) h fun d h' => ∃ r, G r ∧ d = .bool r ∧ h' = h) (h : Heap) (hF : OptP ((F_slices_IndexFunc_int_int p0 p1).bind f) G) (hk : ∀ r, F_slices_IndexFunc_int_int p0 p1 = some r → OptP (f r) G → R (.int .i64 r) h) : CallsA Tryd.prog 61 [.sl 1 (List.map c_i64 p0) 0, .fn (.func f1) fi1 ca1] h R := by
  obtain ⟨r0, hr, hF⟩ := F_bind hF
  refine (F_slices_IndexFunc_int_int_w (G := fun r => r = r0) p0 p1 f1 fi1 ca1 hf1 h ⟨r0, hr, rfl⟩).mono ?_
  rintro _ _ ⟨r, rfl, rfl, rfl⟩
  exact hk _ hr hF
theorem F_slices_ContainsFunc_int_int_w (p0 : List Int) (p1 : Int → Option Bool) (f1 : FuncId) (fi1 ca1 : List D) (hf1 : ∀ (x0 : Int) (G : Bool → Prop) (h : Heap), OptP (p1 x0) G → CallsA Tryd.prog f1 (fi1 ++ [.int .i64 x0] ++ ca1) h fun d h' => ∃ r, G r ∧ d = .bool r ∧ h' = h) {G : Bool → Prop} (h : Heap) (hF : OptP (F_slices_ContainsFunc_int_int p0 p1) G) : CallsA Tryd.prog 42 [.sl 1 (List.map c_i64 p0) 0, .fn (.func f1) fi1 ca1] h fun d h' => ∃ r, G r ∧ d = .bool r ∧ h' = h := by
  refine CallsA.ret ?_
  refine C_body Tryd.func42 rfl en_42 Tryd.ntmps42 rfl (fun ok => ?_)
  rw [F_slices_ContainsFunc_int_int] at hF
  refine C_seq ?_
  refine C_reg (mdl []) ?_
  refine S_a (v := .bool _) rfl ?_
  refine S_nil ?_
  refine C_seq ?_
  refine C_reg (mdl []) ?_
  refine S_m (v := .sl _ _ _) rfl ?_
  refine S_m (v := .fn (.func _) _ _) rfl ?_
  refine S_call (F_slices_IndexFunc_int_int_ok (f1 := f1) (fi1 := fi1) (ca1 := ca1) hf1 _ hF fun x1 _ hF => ?_) (.cons (.refl _) (.cons (.refl _) (.nil)))
  refine S_bin rfl rfl (ev_geq ..) ?_
  refine S_a (v := .bool _) rfl ?_
  refine S_nil ?_
  refine WP_ret ?_
  repeat (first | with_reducible refine Exit.sel_ret ?_ | with_reducible refine Exit.blk_ret ?_)
  refine C_ret (fn := Tryd.f42) rfl (.tmp (v := .bool (decide ((0 : Int) ≤ x1))) rfl .nil) ?_
  exact ⟨_, _, (.refl _), ok.wh, _, F_some hF, rfl, rfl⟩
theorem F_slices_ContainsFunc_int_int_ok {β : Type} {f : Bool → Option β} {G : β → Prop} {R : D → Heap → Prop} {p0 : List Int} {p1 : Int → Option Bool} {f1 : FuncId} {fi1 ca1 : List D} (hf1 : ∀ (x0 : Int) (G : Bool → Prop) (h : Heap), OptP (p1 x0) G → CallsA Tryd.prog f1 (fi1 ++ [.int .i64 x0] ++ ca1) h fun d h' => ∃ r, G r ∧ d = .bool r ∧ h' = h) (h : Heap) (hF : OptP ((F_slices_ContainsFunc_int_int p0 p1).bind f) G) (hk : ∀ r, F_slices_ContainsFunc_int_int p0 p1 = some r → OptP (f r) G → R (.bool r) h) : CallsA Tryd.prog 42 [.sl 1 (List.map c_i64 p0) 0, .fn (.func f1) fi1 ca1] h R := by
  obtain ⟨r0, hr, hF⟩ := F_bind hF
  refine (F_slices_ContainsFunc_int_int_w (G := fun r => r = r0) p0 p1 f1 fi1 ca1 hf1 h ⟨r0, hr, rfl⟩).mono ?_
  rintro _ _ ⟨r, rfl, rfl, rfl⟩
  exact hk _ hr hF
theorem F_trail_right_1_w (p0 : Int) {G : Bool → Prop} (h : Heap) (hF : OptP (F_trail_right_1 p0) G) : CallsA Tryd.prog 43 [.int .i64 p0] h fun d h' => ∃ r, G r ∧ d = .bool r ∧ h' = h := by
  refine CallsA.ret ?_
  refine C_body Tryd.func43 rfl en_43 Tryd.ntmps43 rfl (fun ok => ?_)
  rw [F_trail_right_1] at hF
  refine C_seq ?_
  refine C_reg (mdl []) ?_
  refine S_a (v := .bool _) rfl ?_
  refine S_nil ?_
  refine C_seq ?_
  refine C_reg (mdl []) ?_
  refine S_m (v := .int _ _) rfl ?_
  refine S_bin rfl rfl (ev_lss ..) ?_
  refine S_m (v := .bool _) rfl ?_
  refine S_two (b := (decide (p0 < (0 : Int)))) 3 8 (.bool ((decide (p0 < (0 : Int))) || (decide ((999999999 : Int) < p0)))) (fun hb1 => ?_) (fun hb1 => ?_) ?_
  ·
    refine S_off rfl rfl hb1 ?_
    refine S_offD ?_
    refine S_off rfl rfl hb1 ?_
    refine S_offD ?_
    refine S_pickT (v := .bool _) rfl hb1 rfl ?_
    refine S_nil ?_
    refine .hd (or_t hb1) ?_
    repeat (first | with_reducible exact WS.refl _ | refine WS.add ?_ rfl)
  ·
    refine S_on rfl rfl hb1 ?_
    refine S_in ?_
    refine S_m (v := .int _ _) rfl ?_
    refine S_nil ?_
    refine S_on rfl rfl hb1 ?_
    refine S_in ?_
    refine S_bin rfl rfl (ev_gtr ..) ?_
    refine S_nil ?_
    refine S_pickF (v := .bool _) rfl hb1 rfl ?_
    refine S_nil ?_
    refine .hd (or_f hb1) ?_
    repeat (first | with_reducible exact WS.refl _ | refine WS.add ?_ rfl)
  refine S_a (v := .bool _) rfl ?_
  refine S_nil ?_
  refine WP_ret ?_
  repeat (first | with_reducible refine Exit.sel_ret ?_ | with_reducible refine Exit.blk_ret ?_)
  refine C_ret (fn := Tryd.f43) rfl (.tmp (v := .bool ((decide (p0 < (0 : Int))) || (decide ((999999999 : Int) < p0)))) rfl .nil) ?_
  exact ⟨_, _, (.refl _), ok.wh, _, F_some hF, rfl, rfl⟩
theorem F_trail_right_1_ok {β : Type} {f : Bool → Option β} {G : β → Prop} {R : D → Heap → Prop} {p0 : Int} (h : Heap) (hF : OptP ((F_trail_right_1 p0).bind f) G) (hk : ∀ r, F_trail_right_1 p0 = some r → OptP (f r) G → R (.bool r) h) : CallsA Tryd.prog 43 [.int .i64 p0] h R := by
  obtain ⟨r0, hr, hF⟩ := F_bind hF
  refine (F_trail_right_1_w (G := fun r => r = r0) p0 h ⟨r0, hr, rfl⟩).mono ?_
  rintro _ _ ⟨r, rfl, rfl, rfl⟩
  exact hk _ hr hF
theorem F_char_in_w (p0 : Int) (p1 : List T_char_span) {G : Bool → Prop} (h : Heap) (hF : OptP (F_char_in p0 p1) G) : CallsA Tryd.prog 81 [.int .i32 p0, .sl 2 (List.map c_T_char_span p1) 0] h fun d h' => ∃ r, G r ∧ d = .bool r ∧ h' = h := by
  refine CallsA.ret ?_
  refine C_body Tryd.func81 rfl en_81 Tryd.ntmps81 rfl (fun ok => ?_)
  rw [F_char_in] at hF
  refine C_seq ?_
  refine C_reg (mdl []) ?_
  refine S_a (v := .bool _) rfl ?_
  refine S_nil ?_
  refine C_join hF (fun (_ : Unit) s' => OK h [] ∧ WS s' ⟨mkSl 22 [], Hp h []⟩) (fun J6 hF => ?_) ?_
  ·
    refine C_seq ?_
    refine C_reg (mdl []) ?_
    refine S_m (v := .sl _ _ _) rfl ?_
    refine S_lenL rfl ty_sl_117 ?_
    refine S_m (v := .int _ _) rfl ?_
    refine S_nil ?_
    refine WP_block ?_
    refine C_loop (σ := Int) hF (fun (a7 : Int) s' => OK h [] ∧ WS s' ⟨mkSl 22 [(0, .int .i32 p0), (7, .sl 2 (List.map c_T_char_span p1) 0), (8, .int .i64 (p1.length : Int)), (9, .int .i64 a7)], Hp h []⟩) ?_ ?_
    ·
      have hwo : WO [] [] := .nil
      exact ⟨(hwo.spec ok).1, WS.mk' (.cons (.refl _) (.cons (.refl _) (.cons (.refl _) (.cons (.refl _) .nil)))) ok hwo⟩
    ·
      rintro G8 hG9 rec10 a7 s' ih11 hF ⟨ok, hws⟩
      refine WP_ws hws ?_
      clear hws s'
      rw [F_char_in_l0] at hF
      refine C_seq ?_
      refine C_reg (mdl []) ?_
      refine S_bin rfl rfl (ev_lss ..) ?_
      refine S_nil ?_
      refine C_seq ?_
      refine C_if (b := (decide (a7 < (p1.length : Int)))) rfl hF (fun hb12 hF => ?_) (fun hb12 hF => ?_)
      ·
        refine WP_skip ?_
        refine C_seq ?_
        refine WP_block ?_
        refine C_seq ?_
        refine C_reg (mdl [(6, 1)]) ?_
        refine S_ix rfl rfl ty_sl_117 ty_sz_116 hF (fun x13 _ hF => ?_)
        refine S_ldQ rfl (p_agg (vs := c_T_char_span x13) ty_ag_116 ty_sz_116 rfl rfl) ?_
        refine S_all1 ok rfl ty_zc_116 ?_
        intro i14 hi14 ok
        refine S_st (j := 0) (cs' := [.int .i32 x13.lo, .int .i32 x13.hi]) ok rfl rfl rfl hi14 rfl ty_sz_116 rfl rfl (fun ok => ?_)
        refine S_nil ?_
        refine C_seq ?_
        refine C_reg (mdl []) ?_
        refine S_m (v := .int _ _) rfl ?_
        refine S_faP rfl ty_fd_116_1 ty_sz_21 ?_
        refine S_ldP (j := 0) ok rfl rfl rfl hi14 (p_one (v := .int .i32 x13.hi) ty_ag_21 ty_sz_21 rfl) ?_
        refine S_bin rfl rfl (ev_leq ..) ?_
        refine S_nil ?_
        refine C_if (b := (decide (p0 ≤ x13.hi))) rfl hF (fun hb15 hF => ?_) (fun hb15 hF => ?_)
        ·
          refine C_seq ?_
          refine C_reg (mdl []) ?_
          refine S_m (v := .int _ _) rfl ?_
          refine S_faP rfl ty_fd_116_0 ty_sz_21 ?_
          refine S_ldP (j := 0) ok rfl rfl rfl hi14 (p_one (v := .int .i32 x13.lo) ty_ag_21 ty_sz_21 rfl) ?_
          refine S_bin rfl rfl (ev_geq ..) ?_
          refine S_a (v := .bool _) rfl ?_
          refine S_nil ?_
          refine WP_ret ?_
          replace hF := hG9 _ (F_some hF)
          repeat (first | with_reducible refine Exit.sel_ret ?_ | with_reducible refine Exit.blk_ret ?_)
          refine C_ret (fn := Tryd.f81) rfl (.tmp (v := .bool (decide (x13.lo ≤ p0))) rfl .nil) ?_
          exact ⟨_, _, (.refl _), ok.wh, _, F_some hF, rfl, rfl⟩
        ·
          refine WP_skip ?_
          refine C_reg (mdl []) ?_
          refine S_bin rfl rfl (ev_add ..) ?_
          refine S_m (v := .int _ _) rfl ?_
          refine S_nil ?_
          refine ih11 (IntKind.wrap .i64 (a7 + (1 : Int))) _ hF ?_
          have hwo : WO [(i14, .cells [.int .i32 x13.lo, .int .i32 x13.hi])] [] := (.drop .nil)
          exact ⟨(hwo.spec ok).1, WS.mk' (.cons (.refl _) (.cons (.refl _) (.cons (.refl _) (.cons (.refl _) .nil)))) ok hwo⟩
      ·
        refine WP_exit ?_
        simp only [Exit.sel, Exit.blk, if_true, if_false, reduceIte, Nat.reduceEqDiff, Nat.succ_ne_zero, Nat.zero_ne_one, Nat.one_ne_zero]
        replace hF := hG9 _ (F_some hF)
        have hwo : WO [] [] := .nil
        exact ⟨(), hF, (hwo.spec ok).1, WS.mk' .nil ok hwo⟩
  ·
    rintro ⟨⟩ s' hF ⟨ok, hws⟩
    refine WP_ws hws ?_
    clear hws s'
    refine C_seq ?_
    refine C_reg (mdl []) ?_
    refine S_a (v := .bool _) rfl ?_
    refine S_nil ?_
    refine WP_ret ?_
    repeat (first | with_reducible refine Exit.sel_ret ?_ | with_reducible refine Exit.blk_ret ?_)
    refine C_ret (fn := Tryd.f81) rfl (.tmp (v := .bool false) rfl .nil) ?_
    exact ⟨_, _, (.refl _), ok.wh, _, F_some hF, rfl, rfl⟩
theorem F_char_in_ok {β : Type} {f : Bool → Option β} {G : β → Prop} {R : D → Heap → Prop} {p0 : Int} {p1 : List T_char_span} (h : Heap) (hF : OptP ((F_char_in p0 p1).bind f) G) (hk : ∀ r, F_char_in p0 p1 = some r → OptP (f r) G → R (.bool r) h) : CallsA Tryd.prog 81 [.int .i32 p0, .sl 2 (List.map c_T_char_span p1) 0] h R := by
  obtain ⟨r0, hr, hF⟩ := F_bind hF
  refine (F_char_in_w (G := fun r => r = r0) p0 p1 h ⟨r0, hr, rfl⟩).mono ?_
  rintro _ _ ⟨r, rfl, rfl, rfl⟩
  exact hk _ hr hF
theorem F_char_IsChar_w (p0 : Int) {G : Bool → Prop} (h : Heap) (hF : OptP (F_char_IsChar p0) G) : CallsA Tryd.prog 79 [.int .i32 p0] h fun d h' => ∃ r, G r ∧ d = .bool r ∧ h' = h := by
  refine CallsA.ret ?_
  refine C_body Tryd.func79 rfl en_79 Tryd.ntmps79 rfl (fun ok => ?_)
  rw [F_char_IsChar] at hF
  refine C_seq ?_
  refine C_reg (mdl []) ?_
  refine S_a (v := .bool _) rfl ?_
  refine S_nil ?_
  refine C_seq ?_
  refine C_reg (mdl []) ?_
  refine S_m (v := .int _ _) rfl ?_
  refine S_bin rfl rfl (ev_eql ..) ?_
  refine S_m (v := .bool _) rfl ?_
  refine S_two (b := (p0 == (9 : Int))) 3 8 (.bool ((p0 == (9 : Int)) || (p0 == (10 : Int)))) (fun hb1 => ?_) (fun hb1 => ?_) ?_
  ·
    refine S_off rfl rfl hb1 ?_
    refine S_offD ?_
    refine S_off rfl rfl hb1 ?_
    refine S_offD ?_
    refine S_pickT (v := .bool _) rfl hb1 rfl ?_
    refine S_nil ?_
    refine .hd (or_t hb1) ?_
    repeat (first | with_reducible exact WS.refl _ | refine WS.add ?_ rfl)
  ·
    refine S_on rfl rfl hb1 ?_
    refine S_in ?_
    refine S_m (v := .int _ _) rfl ?_
    refine S_nil ?_
    refine S_on rfl rfl hb1 ?_
    refine S_in ?_
    refine S_bin rfl rfl (ev_eql ..) ?_
    refine S_nil ?_
    refine S_pickF (v := .bool _) rfl hb1 rfl ?_
    refine S_nil ?_
    refine .hd (or_f hb1) ?_
    repeat (first | with_reducible exact WS.refl _ | refine WS.add ?_ rfl)
  refine S_m (v := .bool _) rfl ?_
  refine S_two (b := ((p0 == (9 : Int)) || (p0 == (10 : Int)))) 3 12 (.bool (((p0 == (9 : Int)) || (p0 == (10 : Int))) || (p0 == (13 : Int)))) (fun hb2 => ?_) (fun hb2 => ?_) ?_
  ·
    refine S_off rfl rfl hb2 ?_
    refine S_offD ?_
    refine S_off rfl rfl hb2 ?_
    refine S_offD ?_
    refine S_pickT (v := .bool _) rfl hb2 rfl ?_
    refine S_nil ?_
    refine .hd (or_t hb2) ?_
    repeat (first | with_reducible exact WS.refl _ | refine WS.add ?_ rfl)
  ·
    refine S_on rfl rfl hb2 ?_
    refine S_in ?_
    refine S_m (v := .int _ _) rfl ?_
    refine S_nil ?_
    refine S_on rfl rfl hb2 ?_
    refine S_in ?_
    refine S_bin rfl rfl (ev_eql ..) ?_
    refine S_nil ?_
    refine S_pickF (v := .bool _) rfl hb2 rfl ?_
    refine S_nil ?_
    refine .hd (or_f hb2) ?_
    repeat (first | with_reducible exact WS.refl _ | refine WS.add ?_ rfl)
  refine S_m (v := .bool _) rfl ?_
  refine S_twoJ 7 20 hF (fun J4 hb3 hF => ?_) (fun J4 hb3 hF => ?_) (fun v5 hF => ?_)
  ·
    refine S_off rfl rfl hb3 ?_
    refine S_offD ?_
    refine S_off rfl rfl hb3 ?_
    refine S_offD ?_
    refine S_off rfl rfl hb3 ?_
    refine S_offD ?_
    refine S_off rfl rfl hb3 ?_
    refine S_offD ?_
    refine S_off rfl rfl hb3 ?_
    refine S_offD ?_
    refine S_off rfl rfl hb3 ?_
    refine S_offD ?_
    refine S_pickT (v := .bool _) rfl hb3 rfl ?_
    refine S_nil ?_
    refine ⟨_, hF, .hd (.refl _) ?_⟩
    repeat (first | with_reducible exact WS.refl _ | refine WS.add ?_ rfl)
  ·
    refine S_on rfl rfl hb3 ?_
    refine S_in ?_
    refine S_m (v := .int _ _) rfl ?_
    refine S_nil ?_
    refine S_on rfl rfl hb3 ?_
    refine S_in ?_
    refine S_bld (v := .agg (c_T_char_span (⟨(32 : Int), (55295 : Int)⟩ : T_char_span))) (b_st ty_zc_116 ty_pl_116 rfl) ?_
    refine S_nil ?_
    refine S_on rfl rfl hb3 ?_
    refine S_in ?_
    refine S_bld (v := .agg (c_T_char_span (⟨(57344 : Int), (65533 : Int)⟩ : T_char_span))) (b_st ty_zc_116 ty_pl_116 rfl) ?_
    refine S_nil ?_
    refine S_on rfl rfl hb3 ?_
    refine S_in ?_
    refine S_bld (v := .agg (c_T_char_span (⟨(65536 : Int), (1114111 : Int)⟩ : T_char_span))) (b_st ty_zc_116 ty_pl_116 rfl) ?_
    refine S_nil ?_
    refine S_on rfl rfl hb3 ?_
    refine S_in ?_
    refine S_lit0 (cs := [.int .i32 (⟨(32 : Int), (55295 : Int)⟩ : T_char_span).lo, .int .i32 (⟨(32 : Int), (55295 : Int)⟩ : T_char_span).hi, .int .i32 (⟨(57344 : Int), (65533 : Int)⟩ : T_char_span).lo, .int .i32 (⟨(57344 : Int), (65533 : Int)⟩ : T_char_span).hi, .int .i32 (⟨(65536 : Int), (1114111 : Int)⟩ : T_char_span).lo, .int .i32 (⟨(65536 : Int), (1114111 : Int)⟩ : T_char_span).hi]) (es := (List.map c_T_char_span [(⟨(32 : Int), (55295 : Int)⟩ : T_char_span), (⟨(57344 : Int), (65533 : Int)⟩ : T_char_span), (⟨(65536 : Int), (1114111 : Int)⟩ : T_char_span)])) rfl ty_el_117 rfl (by kernel_rfl) (by kernel_rfl) ?_
    refine S_nil ?_
    refine S_on rfl rfl hb3 ?_
    refine S_in ?_
    refine S_call (F_char_in_ok _ hF fun x6 _ hF => ?_) (.cons (.refl _) (.cons (.refl _) (.nil)))
    refine S_nil ?_
    refine S_pickF (v := .bool _) rfl hb3 rfl ?_
    refine S_nil ?_
    refine ⟨_, hF, .hd (.refl _) ?_⟩
    repeat (first | with_reducible exact WS.refl _ | refine WS.add ?_ rfl)
  ·
    refine S_a (v := .bool _) rfl ?_
    refine S_nil ?_
    refine WP_ret ?_
    repeat (first | with_reducible refine Exit.sel_ret ?_ | with_reducible refine Exit.blk_ret ?_)
    refine C_ret (fn := Tryd.f79) rfl (.tmp (v := .bool v5) rfl .nil) ?_
    exact ⟨_, _, (.refl _), ok.wh, _, F_some hF, rfl, rfl⟩
theorem F_char_IsChar_ok {β : Type} {f : Bool → Option β} {G : β → Prop} {R : D → Heap → Prop} {p0 : Int} (h : Heap) (hF : OptP ((F_char_IsChar p0).bind f) G) (hk : ∀ r, F_char_IsChar p0 = some r → OptP (f r) G → R (.bool r) h) : CallsA Tryd.prog 79 [.int .i32 p0] h R := by
  obtain ⟨r0, hr, hF⟩ := F_bind hF
  refine (F_char_IsChar_w (G := fun r => r = r0) p0 h ⟨r0, hr, rfl⟩).mono ?_
  rintro _ _ ⟨r, rfl, rfl, rfl⟩
  exact hk _ hr hF
theorem F_char_Next_w (p0 : List UInt8) (p1 : Int) {G : Int × Int × Int → Prop} (h : Heap) (hF : OptP (F_char_Next p0 p1) G) : CallsA Tryd.prog 62 [.sl 1 (List.map c_u8 p0) 0, .int .i64 p1] h fun d h' => ∃ r, G r ∧ d = .tup [.int .i32 r.1, .int .i64 r.2.1, .int .i64 r.2.2] ∧ h' = h := by
  refine CallsA.ret ?_
  refine C_body Tryd.func62 rfl en_62 Tryd.ntmps62 rfl (fun ok => ?_)
  rw [F_char_Next] at hF
  refine C_seq ?_
  refine C_reg (mdl []) ?_
  refine S_a (v := .int _ _) rfl ?_
  refine S_a (v := .int _ _) rfl ?_
  refine S_a (v := .int _ _) rfl ?_
  refine S_nil ?_
  refine C_seq ?_
  refine C_seq ?_
  refine C_reg (mdl []) ?_
  refine S_m (v := .int _ _) rfl ?_
  refine S_bin rfl rfl (ev_lss ..) ?_
  refine S_m (v := .bool _) rfl ?_
  refine S_two (b := (decide (p1 < (0 : Int)))) 5 16 (.bool ((decide (p1 < (0 : Int))) || (decide ((p0.length : Int) ≤ p1)))) (fun hb1 => ?_) (fun hb1 => ?_) ?_
  ·
    refine S_off rfl rfl hb1 ?_
    refine S_offD ?_
    refine S_off rfl rfl hb1 ?_
    refine S_offD ?_
    refine S_off rfl rfl hb1 ?_
    refine S_offD ?_
    refine S_off rfl rfl hb1 ?_
    refine S_offD ?_
    refine S_pickT (v := .bool _) rfl hb1 rfl ?_
    refine S_nil ?_
    refine .hd (or_t hb1) ?_
    repeat (first | with_reducible exact WS.refl _ | refine WS.add ?_ rfl)
  ·
    refine S_on rfl rfl hb1 ?_
    refine S_in ?_
    refine S_m (v := .int _ _) rfl ?_
    refine S_nil ?_
    refine S_on rfl rfl hb1 ?_
    refine S_in ?_
    refine S_m (v := .sl _ _ _) rfl ?_
    refine S_nil ?_
    refine S_on rfl rfl hb1 ?_
    refine S_in ?_
    refine S_lenL rfl ty_sl_72 ?_
    refine S_nil ?_
    refine S_on rfl rfl hb1 ?_
    refine S_in ?_
    refine S_bin rfl rfl (ev_geq ..) ?_
    refine S_nil ?_
    refine S_pickF (v := .bool _) rfl hb1 rfl ?_
    refine S_nil ?_
    refine .hd (or_f hb1) ?_
    repeat (first | with_reducible exact WS.refl _ | refine WS.add ?_ rfl)
  refine S_nil ?_
  refine C_if (b := ((decide (p1 < (0 : Int))) || (decide ((p0.length : Int) ≤ p1)))) rfl hF (fun hb2 hF => ?_) (fun hb2 hF => ?_)
  ·
    refine C_seq ?_
    refine C_reg (mdl []) ?_
    refine S_a (v := .int _ _) rfl ?_
    refine S_a (v := .int _ _) rfl ?_
    refine S_a (v := .int _ _) rfl ?_
    refine S_nil ?_
    refine WP_ret ?_
    repeat (first | with_reducible refine Exit.sel_ret ?_ | with_reducible refine Exit.blk_ret ?_)
    refine C_ret (fn := Tryd.f62) rfl (.tmp (v := .int .i32 (0 : Int)) rfl (.tmp (v := .int .i64 (0 : Int)) rfl (.tmp (v := .int .i64 (1 : Int)) rfl .nil))) ?_
    exact ⟨_, _, (.tupC (.cons (.refl _) (.cons (.refl _) (.cons (.refl _) (.nil))))), ok.wh, _, F_some hF, rfl, rfl⟩
  ·
    refine WP_skip ?_
    refine C_seq ?_
    refine C_reg (mdl []) ?_
    refine S_m (v := .sl _ _ _) rfl ?_
    refine S_m (v := .int _ _) rfl ?_
    refine S_slL rfl ty_sl_72 ty_sz_5 (bd_at rfl) bd_len hF (fun x3 _ hF => ?_)
    refine S_call (L_DecodeRune_ok _ hF fun x4 _ hF => ?_) (.cons (.refl _) (.nil))
    refine S_m (v := .tup _) rfl ?_
    refine S_ext rfl rfl ?_
    refine S_ext rfl rfl ?_
    refine S_a (v := .int _ _) rfl ?_
    refine S_a (v := .int _ _) rfl ?_
    refine S_nil ?_
    refine C_seq ?_
    refine WP_block ?_
    refine C_seq ?_
    refine C_reg (mdl []) ?_
    refine S_m (v := .int _ _) rfl ?_
    refine S_bin rfl rfl (ev_eql ..) ?_
    refine S_m (v := .bool _) rfl ?_
    refine S_two (b := (x4.1 == (65533 : Int))) 3 30 (.bool ((x4.1 == (65533 : Int)) && (decide (x4.2 < (3 : Int))))) (fun hb5 => ?_) (fun hb5 => ?_) ?_
    ·
      refine S_on rfl rfl hb5 ?_
      refine S_in ?_
      refine S_m (v := .int _ _) rfl ?_
      refine S_nil ?_
      refine S_on rfl rfl hb5 ?_
      refine S_in ?_
      refine S_bin rfl rfl (ev_lss ..) ?_
      refine S_nil ?_
      refine S_pickT (v := .bool _) rfl hb5 rfl ?_
      refine S_nil ?_
      refine .hd (and_t hb5) ?_
      repeat (first | with_reducible exact WS.refl _ | refine WS.add ?_ rfl)
    ·
      refine S_off rfl rfl hb5 ?_
      refine S_offD ?_
      refine S_off rfl rfl hb5 ?_
      refine S_offD ?_
      refine S_pickF (v := .bool _) rfl hb5 rfl ?_
      refine S_nil ?_
      refine .hd (and_f hb5) ?_
      repeat (first | with_reducible exact WS.refl _ | refine WS.add ?_ rfl)
    refine S_a (v := .bool _) rfl ?_
    refine S_nil ?_
    refine C_if (b := ((x4.1 == (65533 : Int)) && (decide (x4.2 < (3 : Int))))) rfl hF (fun hb6 hF => ?_) (fun hb6 hF => ?_)
    ·
      refine C_seq ?_
      refine C_reg (mdl []) ?_
      refine S_a (v := .int _ _) rfl ?_
      refine S_a (v := .int _ _) rfl ?_
      refine S_a (v := .int _ _) rfl ?_
      refine S_nil ?_
      refine WP_ret ?_
      repeat (first | with_reducible refine Exit.sel_ret ?_ | with_reducible refine Exit.blk_ret ?_)
      refine C_ret (fn := Tryd.f62) rfl (.tmp (v := .int .i32 (0 : Int)) rfl (.tmp (v := .int .i64 (0 : Int)) rfl (.tmp (v := .int .i64 (20 : Int)) rfl .nil))) ?_
      exact ⟨_, _, (.tupC (.cons (.refl _) (.cons (.refl _) (.cons (.refl _) (.nil))))), ok.wh, _, F_some hF, rfl, rfl⟩
    ·
      refine C_seq ?_
      refine C_reg (mdl []) ?_
      refine S_m (v := .int _ _) rfl ?_
      refine S_call (F_char_IsChar_ok _ hF fun x7 _ hF => ?_) (.cons (.refl _) (.nil))
      refine S_un rfl (ev_not _) ?_
      refine S_a (v := .bool _) rfl ?_
      refine S_nil ?_
      refine C_if (b := (!x7)) rfl hF (fun hb8 hF => ?_) (fun hb8 hF => ?_)
      ·
        refine C_seq ?_
        refine C_reg (mdl []) ?_
        refine S_a (v := .int _ _) rfl ?_
        refine S_a (v := .int _ _) rfl ?_
        refine S_a (v := .int _ _) rfl ?_
        refine S_nil ?_
        refine WP_ret ?_
        repeat (first | with_reducible refine Exit.sel_ret ?_ | with_reducible refine Exit.blk_ret ?_)
        refine C_ret (fn := Tryd.f62) rfl (.tmp (v := .int .i32 (0 : Int)) rfl (.tmp (v := .int .i64 (0 : Int)) rfl (.tmp (v := .int .i64 (21 : Int)) rfl .nil))) ?_
        exact ⟨_, _, (.tupC (.cons (.refl _) (.cons (.refl _) (.cons (.refl _) (.nil))))), ok.wh, _, F_some hF, rfl, rfl⟩
      ·
        refine WP_skip ?_
        refine C_seq ?_
        refine C_reg (mdl []) ?_
        refine S_m (v := .int _ _) rfl ?_
        refine S_m (v := .int _ _) rfl ?_
        refine S_m (v := .int _ _) rfl ?_
        refine S_bin rfl rfl (ev_add ..) ?_
        refine S_a (v := .int _ _) rfl ?_
        refine S_a (v := .int _ _) rfl ?_
        refine S_a (v := .int _ _) rfl ?_
        refine S_nil ?_
        refine WP_ret ?_
        repeat (first | with_reducible refine Exit.sel_ret ?_ | with_reducible refine Exit.blk_ret ?_)
        refine C_ret (fn := Tryd.f62) rfl (.tmp (v := .int .i32 x4.1) rfl (.tmp (v := .int .i64 (IntKind.wrap .i64 (p1 + x4.2))) rfl (.tmp (v := .int .i64 (0 : Int)) rfl .nil))) ?_
        exact ⟨_, _, (.tupC (.cons (.refl _) (.cons (.refl _) (.cons (.refl _) (.nil))))), ok.wh, _, F_some hF, rfl, rfl⟩
theorem F_char_Next_ok {β : Type} {f : Int × Int × Int → Option β} {G : β → Prop} {R : D → Heap → Prop} {p0 : List UInt8} {p1 : Int} (h : Heap) (hF : OptP ((F_char_Next p0 p1).bind f) G) (hk : ∀ r, F_char_Next p0 p1 = some r → OptP (f r) G → R (.tup [.int .i32 r.1, .int .i64 r.2.1, .int .i64 r.2.2]) h) : CallsA Tryd.prog 62 [.sl 1 (List.map c_u8 p0) 0, .int .i64 p1] h R := by
  obtain ⟨r0, hr, hF⟩ := F_bind hF
  refine (F_char_Next_w (G := fun r => r = r0) p0 p1 h ⟨r0, hr, rfl⟩).mono ?_
  rintro _ _ ⟨r, rfl, rfl, rfl⟩
  exact hk _ hr hF
theorem F_char_Fault_w (p0 : List UInt8) {G : Int × Int → Prop} (h : Heap) (hF : OptP (F_char_Fault p0) G) : CallsA Tryd.prog 44 [.sl 1 (List.map c_u8 p0) 0] h fun d h' => ∃ r, G r ∧ d = .tup [.int .i64 r.1, .int .i64 r.2] ∧ h' = h := by
  refine CallsA.ret ?_
  refine C_body Tryd.func44 rfl en_44 Tryd.ntmps44 rfl (fun ok => ?_)
  rw [F_char_Fault] at hF
  refine C_seq ?_
  refine C_reg (mdl []) ?_
  refine S_a (v := .int _ _) rfl ?_
  refine S_a (v := .int _ _) rfl ?_
  refine S_nil ?_
  refine C_join hF (fun (_ : Unit) s' => OK h [] ∧ WS s' ⟨mkSl 24 [], Hp h []⟩) (fun J5 hF => ?_) ?_
  ·
    refine C_seq ?_
    refine C_reg (mdl []) ?_
    refine S_a (v := .int _ _) rfl ?_
    refine S_nil ?_
    refine WP_block ?_
    refine C_loop (σ := Int) hF (fun (a6 : Int) s' => OK h [] ∧ WS s' ⟨mkSl 24 [(0, .sl 1 (List.map c_u8 p0) 0), (4, .int .i64 a6)], Hp h []⟩) ?_ ?_
    ·
      have hwo : WO [] [] := .nil
      exact ⟨(hwo.spec ok).1, WS.mk' (.cons (.refl _) (.cons (.refl _) .nil)) ok hwo⟩
    ·
      rintro G7 hG8 rec9 a6 s' ih10 hF ⟨ok, hws⟩
      refine WP_ws hws ?_
      clear hws s'
      rw [F_char_Fault_l0] at hF
      refine C_seq ?_
      refine C_seq ?_
      refine C_reg (mdl []) ?_
      refine S_m (v := .int _ _) rfl ?_
      refine S_m (v := .sl _ _ _) rfl ?_
      refine S_lenL rfl ty_sl_72 ?_
      refine S_bin rfl rfl (ev_lss ..) ?_
      refine S_nil ?_
      refine C_if (b := (decide (a6 < (p0.length : Int)))) rfl hF (fun hb11 hF => ?_) (fun hb11 hF => ?_)
      ·
        refine WP_skip ?_
        refine WP_block ?_
        refine C_seq ?_
        refine C_reg (mdl []) ?_
        refine S_m (v := .sl _ _ _) rfl ?_
        refine S_m (v := .int _ _) rfl ?_
        refine S_call (F_char_Next_ok _ hF fun x12 _ hF => ?_) (.cons (.refl _) (.cons (.refl _) (.nil)))
        refine S_m (v := .tup _) rfl ?_
        refine S_ext rfl rfl ?_
        refine S_ext rfl rfl ?_
        refine S_ext rfl rfl ?_
        refine S_a (v := .int _ _) rfl ?_
        refine S_a (v := .int _ _) rfl ?_
        refine S_a (v := .int _ _) rfl ?_
        refine S_nil ?_
        refine C_seq ?_
        refine C_seq ?_
        refine C_reg (mdl []) ?_
        refine S_m (v := .int _ _) rfl ?_
        refine S_bin rfl rfl (ev_neq ..) ?_
        refine S_nil ?_
        refine C_if (b := (x12.2.2 != (0 : Int))) rfl hF (fun hb13 hF => ?_) (fun hb13 hF => ?_)
        ·
          refine C_seq ?_
          refine C_reg (mdl []) ?_
          refine S_m (v := .int _ _) rfl ?_
          refine S_m (v := .int _ _) rfl ?_
          refine S_a (v := .int _ _) rfl ?_
          refine S_a (v := .int _ _) rfl ?_
          refine S_nil ?_
          refine WP_ret ?_
          replace hF := hG8 _ (F_some hF)
          repeat (first | with_reducible refine Exit.sel_ret ?_ | with_reducible refine Exit.blk_ret ?_)
          refine C_ret (fn := Tryd.f44) rfl (.tmp (v := .int .i64 a6) rfl (.tmp (v := .int .i64 x12.2.2) rfl .nil)) ?_
          exact ⟨_, _, (.tupC (.cons (.refl _) (.cons (.refl _) (.nil)))), ok.wh, _, F_some hF, rfl, rfl⟩
        ·
          refine WP_skip ?_
          refine C_reg (mdl []) ?_
          refine S_m (v := .int _ _) rfl ?_
          refine S_a (v := .int _ _) rfl ?_
          refine S_nil ?_
          refine ih10 x12.2.1 _ hF ?_
          have hwo : WO [] [] := .nil
          exact ⟨(hwo.spec ok).1, WS.mk' (.cons (.refl _) (.cons (.refl _) .nil)) ok hwo⟩
      ·
        refine WP_exit ?_
        simp only [Exit.sel, Exit.blk, if_true, if_false, reduceIte, Nat.reduceEqDiff, Nat.succ_ne_zero, Nat.zero_ne_one, Nat.one_ne_zero]
        replace hF := hG8 _ (F_some hF)
        have hwo : WO [] [] := .nil
        exact ⟨(), hF, (hwo.spec ok).1, WS.mk' .nil ok hwo⟩
  ·
    rintro ⟨⟩ s' hF ⟨ok, hws⟩
    refine WP_ws hws ?_
    clear hws s'
    refine C_seq ?_
    refine C_reg (mdl []) ?_
    refine S_a (v := .int _ _) rfl ?_
    refine S_a (v := .int _ _) rfl ?_
    refine S_nil ?_
    refine WP_ret ?_
    repeat (first | with_reducible refine Exit.sel_ret ?_ | with_reducible refine Exit.blk_ret ?_)
    refine C_ret (fn := Tryd.f44) rfl (.tmp (v := .int .i64 (0 : Int)) rfl (.tmp (v := .int .i64 (0 : Int)) rfl .nil)) ?_
    exact ⟨_, _, (.tupC (.cons (.refl _) (.cons (.refl _) (.nil)))), ok.wh, _, F_some hF, rfl, rfl⟩
theorem F_char_Fault_ok {β : Type} {f : Int × Int → Option β} {G : β → Prop} {R : D → Heap → Prop} {p0 : List UInt8} (h : Heap) (hF : OptP ((F_char_Fault p0).bind f) G) (hk : ∀ r, F_char_Fault p0 = some r → OptP (f r) G → R (.tup [.int .i64 r.1, .int .i64 r.2]) h) : CallsA Tryd.prog 44 [.sl 1 (List.map c_u8 p0) 0] h R := by
  obtain ⟨r0, hr, hF⟩ := F_bind hF
  refine (F_char_Fault_w (G := fun r => r = r0) p0 h ⟨r0, hr, rfl⟩).mono ?_
  rintro _ _ ⟨r, rfl, rfl, rfl⟩
  exact hk _ hr hF
theorem F_char_IsStart_w (p0 : Int) {G : Bool → Prop} (h : Heap) (hF : OptP (F_char_IsStart p0) G) : CallsA Tryd.prog 64 [.int .i32 p0] h fun d h' => ∃ r, G r ∧ d = .bool r ∧ h' = h := by
  refine CallsA.ret ?_
  refine C_body Tryd.func64 rfl en_64 Tryd.ntmps64 rfl (fun ok => ?_)
  rw [F_char_IsStart] at hF
  refine C_seq ?_
  refine C_reg (mdl []) ?_
  refine S_a (v := .bool _) rfl ?_
  refine S_nil ?_
  refine C_seq ?_
  refine C_seq ?_
  refine C_reg (mdl []) ?_
  refine S_m (v := .int _ _) rfl ?_
  refine S_bin rfl rfl (ev_lss ..) ?_
  refine S_nil ?_
  refine C_if (b := (decide (p0 < (128 : Int)))) rfl hF (fun hb1 hF => ?_) (fun hb1 hF => ?_)
  ·
    refine C_seq ?_
    refine C_reg (mdl []) ?_
    refine S_m (v := .int _ _) rfl ?_
    refine S_bin rfl rfl (ev_geq ..) ?_
    refine S_m (v := .bool _) rfl ?_
    refine S_two (b := (decide ((97 : Int) ≤ p0))) 3 10 (.bool ((decide ((97 : Int) ≤ p0)) && (decide (p0 ≤ (122 : Int))))) (fun hb2 => ?_) (fun hb2 => ?_) ?_
    ·
      refine S_on rfl rfl hb2 ?_
      refine S_in ?_
      refine S_m (v := .int _ _) rfl ?_
      refine S_nil ?_
      refine S_on rfl rfl hb2 ?_
      refine S_in ?_
      refine S_bin rfl rfl (ev_leq ..) ?_
      refine S_nil ?_
      refine S_pickT (v := .bool _) rfl hb2 rfl ?_
      refine S_nil ?_
      refine .hd (and_t hb2) ?_
      repeat (first | with_reducible exact WS.refl _ | refine WS.add ?_ rfl)
    ·
      refine S_off rfl rfl hb2 ?_
      refine S_offD ?_
      refine S_off rfl rfl hb2 ?_
      refine S_offD ?_
      refine S_pickF (v := .bool _) rfl hb2 rfl ?_
      refine S_nil ?_
      refine .hd (and_f hb2) ?_
      repeat (first | with_reducible exact WS.refl _ | refine WS.add ?_ rfl)
    refine S_m (v := .bool _) rfl ?_
    refine S_two (b := ((decide ((97 : Int) ≤ p0)) && (decide (p0 ≤ (122 : Int))))) 7 18 (.bool (((decide ((97 : Int) ≤ p0)) && (decide (p0 ≤ (122 : Int)))) || ((decide ((65 : Int) ≤ p0)) && (decide (p0 ≤ (90 : Int)))))) (fun hb3 => ?_) (fun hb3 => ?_) ?_
    ·
      refine S_off rfl rfl hb3 ?_
      refine S_offD ?_
      refine S_off rfl rfl hb3 ?_
      refine S_offD ?_
      refine S_off rfl rfl hb3 ?_
      refine S_offD ?_
      refine S_off2 rfl rfl ?_
      refine S_offD ?_
      refine S_off2 rfl rfl ?_
      refine S_offD ?_
      refine S_off rfl rfl hb3 ?_
      refine S_offD ?_
      refine S_pickT (v := .bool _) rfl hb3 rfl ?_
      refine S_nil ?_
      refine .hd (or_t hb3) ?_
      repeat (first | with_reducible exact WS.refl _ | refine WS.add ?_ rfl)
    ·
      refine S_on rfl rfl hb3 ?_
      refine S_in ?_
      refine S_m (v := .int _ _) rfl ?_
      refine S_nil ?_
      refine S_on rfl rfl hb3 ?_
      refine S_in ?_
      refine S_bin rfl rfl (ev_geq ..) ?_
      refine S_nil ?_
      refine S_on rfl rfl hb3 ?_
      refine S_in ?_
      refine S_m (v := .bool _) rfl ?_
      refine S_nil ?_
      refine S_two (b := (decide ((65 : Int) ≤ p0))) 3 17 (.bool ((decide ((65 : Int) ≤ p0)) && (decide (p0 ≤ (90 : Int))))) (fun hb5 => ?_) (fun hb5 => ?_) ?_
      ·
        refine S_on rfl rfl hb5 ?_
        refine S_in ?_
        refine S_m (v := .int _ _) rfl ?_
        refine S_nil ?_
        refine S_on rfl rfl hb5 ?_
        refine S_in ?_
        refine S_bin rfl rfl (ev_leq ..) ?_
        refine S_nil ?_
        refine S_on rfl rfl hb3 ?_
        refine S_in ?_
        refine S_pickT (v := .bool _) rfl hb5 rfl ?_
        refine S_nil ?_
        refine S_nil ?_
        refine .hd (and_t hb5) ?_
        repeat (first | with_reducible exact WS.refl _ | refine WS.add ?_ rfl)
      ·
        refine S_off rfl rfl hb5 ?_
        refine S_offD ?_
        refine S_off rfl rfl hb5 ?_
        refine S_offD ?_
        refine S_on rfl rfl hb3 ?_
        refine S_in ?_
        refine S_pickF (v := .bool _) rfl hb5 rfl ?_
        refine S_nil ?_
        refine S_nil ?_
        refine .hd (and_f hb5) ?_
        repeat (first | with_reducible exact WS.refl _ | refine WS.add ?_ rfl)
      refine S_pickF (v := .bool _) rfl hb3 rfl ?_
      refine S_nil ?_
      refine .hd (or_f hb3) ?_
      repeat (first | with_reducible exact WS.refl _ | refine WS.add ?_ rfl)
    refine S_m (v := .bool _) rfl ?_
    refine S_two (b := (((decide ((97 : Int) ≤ p0)) && (decide (p0 ≤ (122 : Int)))) || ((decide ((65 : Int) ≤ p0)) && (decide (p0 ≤ (90 : Int)))))) 3 22 (.bool ((((decide ((97 : Int) ≤ p0)) && (decide (p0 ≤ (122 : Int)))) || ((decide ((65 : Int) ≤ p0)) && (decide (p0 ≤ (90 : Int))))) || (p0 == (95 : Int)))) (fun hb6 => ?_) (fun hb6 => ?_) ?_
    ·
      refine S_off rfl rfl hb6 ?_
      refine S_offD ?_
      refine S_off rfl rfl hb6 ?_
      refine S_offD ?_
      refine S_pickT (v := .bool _) rfl hb6 rfl ?_
      refine S_nil ?_
      refine .hd (or_t hb6) ?_
      repeat (first | with_reducible exact WS.refl _ | refine WS.add ?_ rfl)
    ·
      refine S_on rfl rfl hb6 ?_
      refine S_in ?_
      refine S_m (v := .int _ _) rfl ?_
      refine S_nil ?_
      refine S_on rfl rfl hb6 ?_
      refine S_in ?_
      refine S_bin rfl rfl (ev_eql ..) ?_
      refine S_nil ?_
      refine S_pickF (v := .bool _) rfl hb6 rfl ?_
      refine S_nil ?_
      refine .hd (or_f hb6) ?_
      repeat (first | with_reducible exact WS.refl _ | refine WS.add ?_ rfl)
    refine S_a (v := .bool _) rfl ?_
    refine S_nil ?_
    refine WP_ret ?_
    repeat (first | with_reducible refine Exit.sel_ret ?_ | with_reducible refine Exit.blk_ret ?_)
    refine C_ret (fn := Tryd.f64) rfl (.tmp (v := .bool ((((decide ((97 : Int) ≤ p0)) && (decide (p0 ≤ (122 : Int)))) || ((decide ((65 : Int) ≤ p0)) && (decide (p0 ≤ (90 : Int))))) || (p0 == (95 : Int)))) rfl .nil) ?_
    exact ⟨_, _, (.refl _), ok.wh, _, F_some hF, rfl, rfl⟩
  ·
    refine WP_skip ?_
    refine C_seq ?_
    refine C_reg (mdl []) ?_
    refine S_m (v := .int _ _) rfl ?_
    refine S_bld (v := .agg (c_T_char_span (⟨(192 : Int), (214 : Int)⟩ : T_char_span))) (b_st ty_zc_116 ty_pl_116 rfl) ?_
    refine S_bld (v := .agg (c_T_char_span (⟨(216 : Int), (246 : Int)⟩ : T_char_span))) (b_st ty_zc_116 ty_pl_116 rfl) ?_
    refine S_bld (v := .agg (c_T_char_span (⟨(248 : Int), (767 : Int)⟩ : T_char_span))) (b_st ty_zc_116 ty_pl_116 rfl) ?_
    refine S_bld (v := .agg (c_T_char_span (⟨(880 : Int), (893 : Int)⟩ : T_char_span))) (b_st ty_zc_116 ty_pl_116 rfl) ?_
    refine S_bld (v := .agg (c_T_char_span (⟨(895 : Int), (8191 : Int)⟩ : T_char_span))) (b_st ty_zc_116 ty_pl_116 rfl) ?_
    refine S_bld (v := .agg (c_T_char_span (⟨(8204 : Int), (8205 : Int)⟩ : T_char_span))) (b_st ty_zc_116 ty_pl_116 rfl) ?_
    refine S_bld (v := .agg (c_T_char_span (⟨(8304 : Int), (8591 : Int)⟩ : T_char_span))) (b_st ty_zc_116 ty_pl_116 rfl) ?_
    refine S_bld (v := .agg (c_T_char_span (⟨(11264 : Int), (12271 : Int)⟩ : T_char_span))) (b_st ty_zc_116 ty_pl_116 rfl) ?_
    refine S_bld (v := .agg (c_T_char_span (⟨(12289 : Int), (55295 : Int)⟩ : T_char_span))) (b_st ty_zc_116 ty_pl_116 rfl) ?_
    refine S_bld (v := .agg (c_T_char_span (⟨(63744 : Int), (64975 : Int)⟩ : T_char_span))) (b_st ty_zc_116 ty_pl_116 rfl) ?_
    refine S_bld (v := .agg (c_T_char_span (⟨(65008 : Int), (65533 : Int)⟩ : T_char_span))) (b_st ty_zc_116 ty_pl_116 rfl) ?_
    refine S_bld (v := .agg (c_T_char_span (⟨(65536 : Int), (983039 : Int)⟩ : T_char_span))) (b_st ty_zc_116 ty_pl_116 rfl) ?_
    refine S_lit0 (cs := [.int .i32 (⟨(192 : Int), (214 : Int)⟩ : T_char_span).lo, .int .i32 (⟨(192 : Int), (214 : Int)⟩ : T_char_span).hi, .int .i32 (⟨(216 : Int), (246 : Int)⟩ : T_char_span).lo, .int .i32 (⟨(216 : Int), (246 : Int)⟩ : T_char_span).hi, .int .i32 (⟨(248 : Int), (767 : Int)⟩ : T_char_span).lo, .int .i32 (⟨(248 : Int), (767 : Int)⟩ : T_char_span).hi, .int .i32 (⟨(880 : Int), (893 : Int)⟩ : T_char_span).lo, .int .i32 (⟨(880 : Int), (893 : Int)⟩ : T_char_span).hi, .int .i32 (⟨(895 : Int), (8191 : Int)⟩ : T_char_span).lo, .int .i32 (⟨(895 : Int), (8191 : Int)⟩ : T_char_span).hi, .int .i32 (⟨(8204 : Int), (8205 : Int)⟩ : T_char_span).lo, .int .i32 (⟨(8204 : Int), (8205 : Int)⟩ : T_char_span).hi, .int .i32 (⟨(8304 : Int), (8591 : Int)⟩ : T_char_span).lo, .int .i32 (⟨(8304 : Int), (8591 : Int)⟩ : T_char_span).hi, .int .i32 (⟨(11264 : Int), (12271 : Int)⟩ : T_char_span).lo, .int .i32 (⟨(11264 : Int), (12271 : Int)⟩ : T_char_span).hi, .int .i32 (⟨(12289 : Int), (55295 : Int)⟩ : T_char_span).lo, .int .i32 (⟨(12289 : Int), (55295 : Int)⟩ : T_char_span).hi, .int .i32 (⟨(63744 : Int), (64975 : Int)⟩ : T_char_span).lo, .int .i32 (⟨(63744 : Int), (64975 : Int)⟩ : T_char_span).hi, .int .i32 (⟨(65008 : Int), (65533 : Int)⟩ : T_char_span).lo, .int .i32 (⟨(65008 : Int), (65533 : Int)⟩ : T_char_span).hi, .int .i32 (⟨(65536 : Int), (983039 : Int)⟩ : T_char_span).lo, .int .i32 (⟨(65536 : Int), (983039 : Int)⟩ : T_char_span).hi]) (es := (List.map c_T_char_span [(⟨(192 : Int), (214 : Int)⟩ : T_char_span), (⟨(216 : Int), (246 : Int)⟩ : T_char_span), (⟨(248 : Int), (767 : Int)⟩ : T_char_span), (⟨(880 : Int), (893 : Int)⟩ : T_char_span), (⟨(895 : Int), (8191 : Int)⟩ : T_char_span), (⟨(8204 : Int), (8205 : Int)⟩ : T_char_span), (⟨(8304 : Int), (8591 : Int)⟩ : T_char_span), (⟨(11264 : Int), (12271 : Int)⟩ : T_char_span), (⟨(12289 : Int), (55295 : Int)⟩ : T_char_span), (⟨(63744 : Int), (64975 : Int)⟩ : T_char_span), (⟨(65008 : Int), (65533 : Int)⟩ : T_char_span), (⟨(65536 : Int), (983039 : Int)⟩ : T_char_span)])) rfl ty_el_117 rfl (by kernel_rfl) (by kernel_rfl) ?_
    refine S_call (F_char_in_ok _ hF fun x7 _ hF => ?_) (.cons (.refl _) (.cons (.refl _) (.nil)))
    refine S_a (v := .bool _) rfl ?_
    refine S_nil ?_
    refine WP_ret ?_
    repeat (first | with_reducible refine Exit.sel_ret ?_ | with_reducible refine Exit.blk_ret ?_)
    refine C_ret (fn := Tryd.f64) rfl (.tmp (v := .bool x7) rfl .nil) ?_
    exact ⟨_, _, (.refl _), ok.wh, _, F_some hF, rfl, rfl⟩
theorem F_char_IsStart_ok {β : Type} {f : Bool → Option β} {G : β → Prop} {R : D → Heap → Prop} {p0 : Int} (h : Heap) (hF : OptP ((F_char_IsStart p0).bind f) G) (hk : ∀ r, F_char_IsStart p0 = some r → OptP (f r) G → R (.bool r) h) : CallsA Tryd.prog 64 [.int .i32 p0] h R := by
  obtain ⟨r0, hr, hF⟩ := F_bind hF
  refine (F_char_IsStart_w (G := fun r => r = r0) p0 h ⟨r0, hr, rfl⟩).mono ?_
  rintro _ _ ⟨r, rfl, rfl, rfl⟩
  exact hk _ hr hF
theorem F_char_IsPart_w (p0 : Int) {G : Bool → Prop} (h : Heap) (hF : OptP (F_char_IsPart p0) G) : CallsA Tryd.prog 65 [.int .i32 p0] h fun d h' => ∃ r, G r ∧ d = .bool r ∧ h' = h := by
  refine CallsA.ret ?_
  refine C_body Tryd.func65 rfl en_65 Tryd.ntmps65 rfl (fun ok => ?_)
  rw [F_char_IsPart] at hF
  refine C_seq ?_
  refine C_reg (mdl []) ?_
  refine S_a (v := .bool _) rfl ?_
  refine S_nil ?_
  refine C_seq ?_
  refine C_reg (mdl []) ?_
  refine S_m (v := .int _ _) rfl ?_
  refine S_call (F_char_IsStart_ok _ hF fun x1 _ hF => ?_) (.cons (.refl _) (.nil))
  refine S_m (v := .bool _) rfl ?_
  refine S_two (b := x1) 3 8 (.bool (x1 || (p0 == (45 : Int)))) (fun hb2 => ?_) (fun hb2 => ?_) ?_
  ·
    refine S_off rfl rfl hb2 ?_
    refine S_offD ?_
    refine S_off rfl rfl hb2 ?_
    refine S_offD ?_
    refine S_pickT (v := .bool _) rfl hb2 rfl ?_
    refine S_nil ?_
    refine .hd (or_t hb2) ?_
    repeat (first | with_reducible exact WS.refl _ | refine WS.add ?_ rfl)
  ·
    refine S_on rfl rfl hb2 ?_
    refine S_in ?_
    refine S_m (v := .int _ _) rfl ?_
    refine S_nil ?_
    refine S_on rfl rfl hb2 ?_
    refine S_in ?_
    refine S_bin rfl rfl (ev_eql ..) ?_
    refine S_nil ?_
    refine S_pickF (v := .bool _) rfl hb2 rfl ?_
    refine S_nil ?_
    refine .hd (or_f hb2) ?_
    repeat (first | with_reducible exact WS.refl _ | refine WS.add ?_ rfl)
  refine S_m (v := .bool _) rfl ?_
  refine S_two (b := (x1 || (p0 == (45 : Int)))) 3 12 (.bool ((x1 || (p0 == (45 : Int))) || (p0 == (46 : Int)))) (fun hb3 => ?_) (fun hb3 => ?_) ?_
  ·
    refine S_off rfl rfl hb3 ?_
    refine S_offD ?_
    refine S_off rfl rfl hb3 ?_
    refine S_offD ?_
    refine S_pickT (v := .bool _) rfl hb3 rfl ?_
    refine S_nil ?_
    refine .hd (or_t hb3) ?_
    repeat (first | with_reducible exact WS.refl _ | refine WS.add ?_ rfl)
  ·
    refine S_on rfl rfl hb3 ?_
    refine S_in ?_
    refine S_m (v := .int _ _) rfl ?_
    refine S_nil ?_
    refine S_on rfl rfl hb3 ?_
    refine S_in ?_
    refine S_bin rfl rfl (ev_eql ..) ?_
    refine S_nil ?_
    refine S_pickF (v := .bool _) rfl hb3 rfl ?_
    refine S_nil ?_
    refine .hd (or_f hb3) ?_
    repeat (first | with_reducible exact WS.refl _ | refine WS.add ?_ rfl)
  refine S_m (v := .bool _) rfl ?_
  refine S_two (b := ((x1 || (p0 == (45 : Int))) || (p0 == (46 : Int)))) 7 20 (.bool (((x1 || (p0 == (45 : Int))) || (p0 == (46 : Int))) || ((decide ((48 : Int) ≤ p0)) && (decide (p0 ≤ (57 : Int)))))) (fun hb4 => ?_) (fun hb4 => ?_) ?_
  ·
    refine S_off rfl rfl hb4 ?_
    refine S_offD ?_
    refine S_off rfl rfl hb4 ?_
    refine S_offD ?_
    refine S_off rfl rfl hb4 ?_
    refine S_offD ?_
    refine S_off2 rfl rfl ?_
    refine S_offD ?_
    refine S_off2 rfl rfl ?_
    refine S_offD ?_
    refine S_off rfl rfl hb4 ?_
    refine S_offD ?_
    refine S_pickT (v := .bool _) rfl hb4 rfl ?_
    refine S_nil ?_
    refine .hd (or_t hb4) ?_
    repeat (first | with_reducible exact WS.refl _ | refine WS.add ?_ rfl)
  ·
    refine S_on rfl rfl hb4 ?_
    refine S_in ?_
    refine S_m (v := .int _ _) rfl ?_
    refine S_nil ?_
    refine S_on rfl rfl hb4 ?_
    refine S_in ?_
    refine S_bin rfl rfl (ev_geq ..) ?_
    refine S_nil ?_
    refine S_on rfl rfl hb4 ?_
    refine S_in ?_
    refine S_m (v := .bool _) rfl ?_
    refine S_nil ?_
    refine S_two (b := (decide ((48 : Int) ≤ p0))) 3 19 (.bool ((decide ((48 : Int) ≤ p0)) && (decide (p0 ≤ (57 : Int))))) (fun hb6 => ?_) (fun hb6 => ?_) ?_
    ·
      refine S_on rfl rfl hb6 ?_
      refine S_in ?_
      refine S_m (v := .int _ _) rfl ?_
      refine S_nil ?_
      refine S_on rfl rfl hb6 ?_
      refine S_in ?_
      refine S_bin rfl rfl (ev_leq ..) ?_
      refine S_nil ?_
      refine S_on rfl rfl hb4 ?_
      refine S_in ?_
      refine S_pickT (v := .bool _) rfl hb6 rfl ?_
      refine S_nil ?_
      refine S_nil ?_
      refine .hd (and_t hb6) ?_
      repeat (first | with_reducible exact WS.refl _ | refine WS.add ?_ rfl)
    ·
      refine S_off rfl rfl hb6 ?_
      refine S_offD ?_
      refine S_off rfl rfl hb6 ?_
      refine S_offD ?_
      refine S_on rfl rfl hb4 ?_
      refine S_in ?_
      refine S_pickF (v := .bool _) rfl hb6 rfl ?_
      refine S_nil ?_
      refine S_nil ?_
      refine .hd (and_f hb6) ?_
      repeat (first | with_reducible exact WS.refl _ | refine WS.add ?_ rfl)
    refine S_pickF (v := .bool _) rfl hb4 rfl ?_
    refine S_nil ?_
    refine .hd (or_f hb4) ?_
    repeat (first | with_reducible exact WS.refl _ | refine WS.add ?_ rfl)
  refine S_m (v := .bool _) rfl ?_
  refine S_two (b := (((x1 || (p0 == (45 : Int))) || (p0 == (46 : Int))) || ((decide ((48 : Int) ≤ p0)) && (decide (p0 ≤ (57 : Int)))))) 3 24 (.bool ((((x1 || (p0 == (45 : Int))) || (p0 == (46 : Int))) || ((decide ((48 : Int) ≤ p0)) && (decide (p0 ≤ (57 : Int))))) || (p0 == (183 : Int)))) (fun hb7 => ?_) (fun hb7 => ?_) ?_
  ·
    refine S_off rfl rfl hb7 ?_
    refine S_offD ?_
    refine S_off rfl rfl hb7 ?_
    refine S_offD ?_
    refine S_pickT (v := .bool _) rfl hb7 rfl ?_
    refine S_nil ?_
    refine .hd (or_t hb7) ?_
    repeat (first | with_reducible exact WS.refl _ | refine WS.add ?_ rfl)
  ·
    refine S_on rfl rfl hb7 ?_
    refine S_in ?_
    refine S_m (v := .int _ _) rfl ?_
    refine S_nil ?_
    refine S_on rfl rfl hb7 ?_
    refine S_in ?_
    refine S_bin rfl rfl (ev_eql ..) ?_
    refine S_nil ?_
    refine S_pickF (v := .bool _) rfl hb7 rfl ?_
    refine S_nil ?_
    refine .hd (or_f hb7) ?_
    repeat (first | with_reducible exact WS.refl _ | refine WS.add ?_ rfl)
  refine S_m (v := .bool _) rfl ?_
  refine S_twoJ 6 31 hF (fun J9 hb8 hF => ?_) (fun J9 hb8 hF => ?_) (fun v10 hF => ?_)
  ·
    refine S_off rfl rfl hb8 ?_
    refine S_offD ?_
    refine S_off rfl rfl hb8 ?_
    refine S_offD ?_
    refine S_off rfl rfl hb8 ?_
    refine S_offD ?_
    refine S_off rfl rfl hb8 ?_
    refine S_offD ?_
    refine S_off rfl rfl hb8 ?_
    refine S_offD ?_
    refine S_pickT (v := .bool _) rfl hb8 rfl ?_
    refine S_nil ?_
    refine ⟨_, hF, .hd (.refl _) ?_⟩
    repeat (first | with_reducible exact WS.refl _ | refine WS.add ?_ rfl)
  ·
    refine S_on rfl rfl hb8 ?_
    refine S_in ?_
    refine S_m (v := .int _ _) rfl ?_
    refine S_nil ?_
    refine S_on rfl rfl hb8 ?_
    refine S_in ?_
    refine S_bld (v := .agg (c_T_char_span (⟨(768 : Int), (879 : Int)⟩ : T_char_span))) (b_st ty_zc_116 ty_pl_116 rfl) ?_
    refine S_nil ?_
    refine S_on rfl rfl hb8 ?_
    refine S_in ?_
    refine S_bld (v := .agg (c_T_char_span (⟨(8255 : Int), (8256 : Int)⟩ : T_char_span))) (b_st ty_zc_116 ty_pl_116 rfl) ?_
    refine S_nil ?_
    refine S_on rfl rfl hb8 ?_
    refine S_in ?_
    refine S_lit0 (cs := [.int .i32 (⟨(768 : Int), (879 : Int)⟩ : T_char_span).lo, .int .i32 (⟨(768 : Int), (879 : Int)⟩ : T_char_span).hi, .int .i32 (⟨(8255 : Int), (8256 : Int)⟩ : T_char_span).lo, .int .i32 (⟨(8255 : Int), (8256 : Int)⟩ : T_char_span).hi]) (es := (List.map c_T_char_span [(⟨(768 : Int), (879 : Int)⟩ : T_char_span), (⟨(8255 : Int), (8256 : Int)⟩ : T_char_span)])) rfl ty_el_117 rfl (by kernel_rfl) (by kernel_rfl) ?_
    refine S_nil ?_
    refine S_on rfl rfl hb8 ?_
    refine S_in ?_
    refine S_call (F_char_in_ok _ hF fun x11 _ hF => ?_) (.cons (.refl _) (.cons (.refl _) (.nil)))
    refine S_nil ?_
    refine S_pickF (v := .bool _) rfl hb8 rfl ?_
    refine S_nil ?_
    refine ⟨_, hF, .hd (.refl _) ?_⟩
    repeat (first | with_reducible exact WS.refl _ | refine WS.add ?_ rfl)
  ·
    refine S_a (v := .bool _) rfl ?_
    refine S_nil ?_
    refine WP_ret ?_
    repeat (first | with_reducible refine Exit.sel_ret ?_ | with_reducible refine Exit.blk_ret ?_)
    refine C_ret (fn := Tryd.f65) rfl (.tmp (v := .bool v10) rfl .nil) ?_
    exact ⟨_, _, (.refl _), ok.wh, _, F_some hF, rfl, rfl⟩
theorem F_char_IsPart_ok {β : Type} {f : Bool → Option β} {G : β → Prop} {R : D → Heap → Prop} {p0 : Int} (h : Heap) (hF : OptP ((F_char_IsPart p0).bind f) G) (hk : ∀ r, F_char_IsPart p0 = some r → OptP (f r) G → R (.bool r) h) : CallsA Tryd.prog 65 [.int .i32 p0] h R := by
  obtain ⟨r0, hr, hF⟩ := F_bind hF
  refine (F_char_IsPart_w (G := fun r => r = r0) p0 h ⟨r0, hr, rfl⟩).mono ?_
  rintro _ _ ⟨r, rfl, rfl, rfl⟩
  exact hk _ hr hF
theorem F_char_Name_w (p0 : List UInt8) {G : Bool → Prop} (h : Heap) (hF : OptP (F_char_Name p0) G) : CallsA Tryd.prog 45 [.str p0] h fun d h' => ∃ r, G r ∧ d = .bool r ∧ h' = h := by
  refine CallsA.ret ?_
  refine C_body Tryd.func45 rfl en_45 Tryd.ntmps45 rfl (fun ok => ?_)
  rw [F_char_Name] at hF
  refine C_seq ?_
  refine C_reg (mdl []) ?_
  refine S_a (v := .bool _) rfl ?_
  refine S_nil ?_
  refine C_seq ?_
  refine C_seq ?_
  refine C_reg (mdl []) ?_
  refine S_m (v := .str _) rfl ?_
  refine S_bin rfl rfl e_seql ?_
  refine S_m (v := .bool _) rfl ?_
  refine S_two (b := (p0 == ([] : List UInt8))) 4 11 (.bool ((p0 == ([] : List UInt8)) || (decide ((100 : Int) < (p0.length : Int))))) (fun hb1 => ?_) (fun hb1 => ?_) ?_
  ·
    refine S_off rfl rfl hb1 ?_
    refine S_offD ?_
    refine S_off rfl rfl hb1 ?_
    refine S_offD ?_
    refine S_off rfl rfl hb1 ?_
    refine S_offD ?_
    refine S_pickT (v := .bool _) rfl hb1 rfl ?_
    refine S_nil ?_
    refine .hd (or_t hb1) ?_
    repeat (first | with_reducible exact WS.refl _ | refine WS.add ?_ rfl)
  ·
    refine S_on rfl rfl hb1 ?_
    refine S_in ?_
    refine S_m (v := .str _) rfl ?_
    refine S_nil ?_
    refine S_on rfl rfl hb1 ?_
    refine S_in ?_
    refine S_lenS rfl ty_st_9 ?_
    refine S_nil ?_
    refine S_on rfl rfl hb1 ?_
    refine S_in ?_
    refine S_bin rfl rfl (ev_gtr ..) ?_
    refine S_nil ?_
    refine S_pickF (v := .bool _) rfl hb1 rfl ?_
    refine S_nil ?_
    refine .hd (or_f hb1) ?_
    repeat (first | with_reducible exact WS.refl _ | refine WS.add ?_ rfl)
  refine S_m (v := .bool _) rfl ?_
  refine S_twoJ 4 16 hF (fun J3 hb2 hF => ?_) (fun J3 hb2 hF => ?_) (fun v4 hF => ?_)
  ·
    refine S_off rfl rfl hb2 ?_
    refine S_offD ?_
    refine S_off rfl rfl hb2 ?_
    refine S_offD ?_
    refine S_off rfl rfl hb2 ?_
    refine S_offD ?_
    refine S_pickT (v := .bool _) rfl hb2 rfl ?_
    refine S_nil ?_
    refine ⟨_, hF, .hd (.refl _) ?_⟩
    repeat (first | with_reducible exact WS.refl _ | refine WS.add ?_ rfl)
  ·
    refine S_on rfl rfl hb2 ?_
    refine S_in ?_
    refine S_m (v := .str _) rfl ?_
    refine S_nil ?_
    refine S_on rfl rfl hb2 ?_
    refine S_in ?_
    refine S_call (L_ValidString_ok _ hF fun x5 _ hF => ?_) (.cons (.refl _) (.nil))
    refine S_nil ?_
    refine S_on rfl rfl hb2 ?_
    refine S_in ?_
    refine S_un rfl (ev_not _) ?_
    refine S_nil ?_
    refine S_pickF (v := .bool _) rfl hb2 rfl ?_
    refine S_nil ?_
    refine ⟨_, hF, .hd (.refl _) ?_⟩
    repeat (first | with_reducible exact WS.refl _ | refine WS.add ?_ rfl)
  ·
    refine S_nil ?_
    refine C_if (b := v4) rfl hF (fun hb6 hF => ?_) (fun hb6 hF => ?_)
    ·
      refine C_seq ?_
      refine C_reg (mdl []) ?_
      refine S_a (v := .bool _) rfl ?_
      refine S_nil ?_
      refine WP_ret ?_
      repeat (first | with_reducible refine Exit.sel_ret ?_ | with_reducible refine Exit.blk_ret ?_)
      refine C_ret (fn := Tryd.f45) rfl (.tmp (v := .bool false) rfl .nil) ?_
      exact ⟨_, _, (.refl _), ok.wh, _, F_some hF, rfl, rfl⟩
    ·
      refine WP_skip ?_
      refine C_join hF (fun (_ : Unit) s' => OK h [] ∧ WS s' ⟨mkSl 35 [], Hp h []⟩) (fun J18 hF => ?_) ?_
      ·
        refine C_seq ?_
        refine C_reg (mdl []) ?_
        refine S_m (v := .str _) rfl ?_
        refine S_rng ok rfl ty_st_9 ?_
        intro i19 hi19 ok
        refine S_nil ?_
        refine WP_block ?_
        refine C_loop (σ := Nat) hF (fun (a20 : Nat) s' => OK h [(i19, .iter p0 a20)] ∧ WS s' ⟨mkSl 35 [(18, .ptr i19 0)], Hp h [(i19, .iter p0 a20)]⟩) ?_ ?_
        ·
          have hwo : WO [(i19, .iter p0 (0 : Nat))] [(i19, .iter p0 (0 : Nat))] := (.keep .nil)
          exact ⟨(hwo.spec ok).1, WS.mk' (.cons (.refl _) .nil) ok hwo⟩
        ·
          rintro G21 hG22 rec23 a20 s' ih24 hF ⟨ok, hws⟩
          refine WP_ws hws ?_
          clear hws s'
          rw [F_char_Name_l0] at hF
          refine C_seq ?_
          refine C_reg (mdl []) ?_
          refine S_nxt (j := 0) ok rfl rfl hi19 hF (fun _ ok hF => ?_) (fun hF => ?_)
          ·
            refine S_ext rfl rfl ?_
            refine S_nil ?_
            refine C_seq ?_
            refine C_tt rfl rfl ?_
            refine WP_skip ?_
            refine WP_block ?_
            refine C_seq ?_
            refine C_reg (mdl []) ?_
            refine S_ext rfl rfl ?_
            refine S_ext rfl rfl ?_
            refine S_a (v := .int _ _) rfl ?_
            refine S_a (v := .int _ _) rfl ?_
            refine S_nil ?_
            refine C_seq ?_
            refine C_reg (mdl []) ?_
            refine S_m (v := .int _ _) rfl ?_
            refine S_bin rfl rfl (ev_eql ..) ?_
            refine S_m (v := .bool _) rfl ?_
            refine S_twoJ 4 29 hF (fun J26 hb25 hF => ?_) (fun J26 hb25 hF => ?_) (fun v27 hF => ?_)
            ·
              refine S_on rfl rfl hb25 ?_
              refine S_in ?_
              refine S_m (v := .int _ _) rfl ?_
              refine S_nil ?_
              refine S_on rfl rfl hb25 ?_
              refine S_in ?_
              refine S_call (F_char_IsStart_ok _ hF fun x28 _ hF => ?_) (.cons (.refl _) (.nil))
              refine S_nil ?_
              refine S_on rfl rfl hb25 ?_
              refine S_in ?_
              refine S_un rfl (ev_not _) ?_
              refine S_nil ?_
              refine S_pickT (v := .bool _) rfl hb25 rfl ?_
              refine S_nil ?_
              refine ⟨_, hF, .hd (.refl _) ?_⟩
              repeat (first | with_reducible exact WS.refl _ | refine WS.add ?_ rfl)
            ·
              refine S_off rfl rfl hb25 ?_
              refine S_offD ?_
              refine S_off rfl rfl hb25 ?_
              refine S_offD ?_
              refine S_off rfl rfl hb25 ?_
              refine S_offD ?_
              refine S_pickF (v := .bool _) rfl hb25 rfl ?_
              refine S_nil ?_
              refine ⟨_, hF, .hd (.refl _) ?_⟩
              repeat (first | with_reducible exact WS.refl _ | refine WS.add ?_ rfl)
            ·
              refine S_m (v := .bool _) rfl ?_
              refine S_twoJ 4 34 hF (fun J30 hb29 hF => ?_) (fun J30 hb29 hF => ?_) (fun v31 hF => ?_)
              ·
                refine S_off rfl rfl hb29 ?_
                refine S_offD ?_
                refine S_off rfl rfl hb29 ?_
                refine S_offD ?_
                refine S_off rfl rfl hb29 ?_
                refine S_offD ?_
                refine S_pickT (v := .bool _) rfl hb29 rfl ?_
                refine S_nil ?_
                refine ⟨_, hF, .hd (.refl _) ?_⟩
                repeat (first | with_reducible exact WS.refl _ | refine WS.add ?_ rfl)
              ·
                refine S_on rfl rfl hb29 ?_
                refine S_in ?_
                refine S_m (v := .int _ _) rfl ?_
                refine S_nil ?_
                refine S_on rfl rfl hb29 ?_
                refine S_in ?_
                refine S_call (F_char_IsPart_ok _ hF fun x32 _ hF => ?_) (.cons (.refl _) (.nil))
                refine S_nil ?_
                refine S_on rfl rfl hb29 ?_
                refine S_in ?_
                refine S_un rfl (ev_not _) ?_
                refine S_nil ?_
                refine S_pickF (v := .bool _) rfl hb29 rfl ?_
                refine S_nil ?_
                refine ⟨_, hF, .hd (.refl _) ?_⟩
                repeat (first | with_reducible exact WS.refl _ | refine WS.add ?_ rfl)
              ·
                refine S_nil ?_
                refine C_if (b := v31) rfl hF (fun hb33 hF => ?_) (fun hb33 hF => ?_)
                ·
                  refine C_seq ?_
                  refine C_reg (mdl []) ?_
                  refine S_a (v := .bool _) rfl ?_
                  refine S_nil ?_
                  refine WP_ret ?_
                  replace hF := hG22 _ (F_some hF)
                  repeat (first | with_reducible refine Exit.sel_ret ?_ | with_reducible refine Exit.blk_ret ?_)
                  refine C_ret (fn := Tryd.f45) rfl (.tmp (v := .bool false) rfl .nil) ?_
                  exact ⟨_, _, (.refl _), ok.wh, _, F_some hF, rfl, rfl⟩
                ·
                  refine WP_skip ?_
                  refine ih24 (a20 + wdS p0 a20) _ hF ?_
                  have hwo : WO [(i19, .iter p0 (a20 + wdS p0 a20))] [(i19, .iter p0 (a20 + wdS p0 a20))] := (.keep .nil)
                  exact ⟨(hwo.spec ok).1, WS.mk' (.cons (.refl _) .nil) ok hwo⟩
          ·
            refine S_ext rfl rfl ?_
            refine S_nil ?_
            refine C_seq ?_
            refine C_ff rfl rfl ?_
            refine WP_exit ?_
            simp only [Exit.sel, Exit.blk, if_true, if_false, reduceIte, Nat.reduceEqDiff, Nat.succ_ne_zero, Nat.zero_ne_one, Nat.one_ne_zero]
            replace hF := hG22 _ (F_some hF)
            have hwo : WO [(i19, .iter p0 a20)] [] := (.drop .nil)
            exact ⟨(), hF, (hwo.spec ok).1, WS.mk' .nil ok hwo⟩
      ·
        rintro ⟨⟩ s' hF ⟨ok, hws⟩
        refine WP_ws hws ?_
        clear hws s'
        refine C_seq ?_
        refine C_reg (mdl []) ?_
        refine S_a (v := .bool _) rfl ?_
        refine S_nil ?_
        refine WP_ret ?_
        repeat (first | with_reducible refine Exit.sel_ret ?_ | with_reducible refine Exit.blk_ret ?_)
        refine C_ret (fn := Tryd.f45) rfl (.tmp (v := .bool true) rfl .nil) ?_
        exact ⟨_, _, (.refl _), ok.wh, _, F_some hF, rfl, rfl⟩
theorem F_char_Name_ok {β : Type} {f : Bool → Option β} {G : β → Prop} {R : D → Heap → Prop} {p0 : List UInt8} (h : Heap) (hF : OptP ((F_char_Name p0).bind f) G) (hk : ∀ r, F_char_Name p0 = some r → OptP (f r) G → R (.bool r) h) : CallsA Tryd.prog 45 [.str p0] h R := by
  obtain ⟨r0, hr, hF⟩ := F_bind hF
  refine (F_char_Name_w (G := fun r => r = r0) p0 h ⟨r0, hr, rfl⟩).mono ?_
  rintro _ _ ⟨r, rfl, rfl, rfl⟩
  exact hk _ hr hF
theorem F_trail_right_w (p0 : T_trail_Trail) {G : Bool → Prop} (h : Heap) (hF : OptP (F_trail_right p0) G) : CallsA Tryd.prog 23 [.agg (c_T_trail_Trail p0)] h fun d h' => ∃ r, G r ∧ d = .bool r ∧ h' = h := by
  refine CallsA.ret ?_
  refine C_body Tryd.func23 rfl en_23 Tryd.ntmps23 rfl (fun ok => ?_)
  rw [F_trail_right] at hF
  refine C_seq ?_
  refine C_reg (mdl []) ?_
  refine S_box0 rfl rfl rfl rfl ?_
  refine S_a (v := .bool _) rfl ?_
  refine S_nil ?_
  refine C_seq ?_
  refine C_seq ?_
  refine C_reg (mdl []) ?_
  refine S_faQ rfl ty_fd_26_0 ty_sz_22 rfl ?_
  refine S_ldQ rfl (p_one ty_ag_22 ty_sz_22 rfl) ?_
  refine S_lenL rfl ty_sl_22 ?_
  refine S_bin rfl rfl (ev_gtr ..) ?_
  refine S_m (v := .bool _) rfl ?_
  refine S_twoJ 4 13 hF (fun J2 hb1 hF => ?_) (fun J2 hb1 hF => ?_) (fun v3 hF => ?_)
  ·
    refine S_off rfl rfl hb1 ?_
    refine S_offD ?_
    refine S_off rfl rfl hb1 ?_
    refine S_offD ?_
    refine S_off rfl rfl hb1 ?_
    refine S_offD ?_
    refine S_pickT (v := .bool _) rfl hb1 rfl ?_
    refine S_nil ?_
    refine ⟨_, hF, .hd (.refl _) ?_⟩
    repeat (first | with_reducible exact WS.refl _ | refine WS.add ?_ rfl)
  ·
    refine S_on rfl rfl hb1 ?_
    refine S_in ?_
    refine S_faQ rfl ty_fd_26_0 ty_sz_22 rfl ?_
    refine S_nil ?_
    refine S_on rfl rfl hb1 ?_
    refine S_in ?_
    refine S_ldQ rfl (p_one ty_ag_22 ty_sz_22 rfl) ?_
    refine S_nil ?_
    refine S_on rfl rfl hb1 ?_
    refine S_in ?_
    refine S_call (F_slices_ContainsFunc_int_int_ok (f1 := 43) (fi1 := []) (ca1 := []) (fun z0 G h hF => F_trail_right_1_w z0 h hF) _ hF fun x4 _ hF => ?_) (.cons (.refl _) (.cons (.refl _) (.nil)))
    refine S_nil ?_
    refine S_pickF (v := .bool _) rfl hb1 rfl ?_
    refine S_nil ?_
    refine ⟨_, hF, .hd (.refl _) ?_⟩
    repeat (first | with_reducible exact WS.refl _ | refine WS.add ?_ rfl)
  ·
    refine S_nil ?_
    refine C_if (b := v3) rfl hF (fun hb5 hF => ?_) (fun hb5 hF => ?_)
    ·
      refine C_seq ?_
      refine C_reg (mdl []) ?_
      refine S_a (v := .bool _) rfl ?_
      refine S_nil ?_
      refine WP_ret ?_
      repeat (first | with_reducible refine Exit.sel_ret ?_ | with_reducible refine Exit.blk_ret ?_)
      refine C_ret (fn := Tryd.f23) rfl (.tmp (v := .bool false) rfl .nil) ?_
      exact ⟨_, _, (.refl _), ok.wh, _, F_some hF, rfl, rfl⟩
    ·
      refine WP_skip ?_
      refine C_seq ?_
      refine C_seq ?_
      refine C_reg (mdl []) ?_
      refine S_faQ rfl ty_fd_26_1 ty_sz_4 rfl ?_
      refine S_ldQ rfl (p_one ty_ag_4 ty_sz_4 rfl) ?_
      refine S_un rfl (ev_not _) ?_
      refine S_nil ?_
      refine C_if (b := (!p0.Attr)) rfl hF (fun hb6 hF => ?_) (fun hb6 hF => ?_)
      ·
        refine C_seq ?_
        refine C_reg (mdl []) ?_
        refine S_faQ rfl ty_fd_26_2 ty_sz_24 rfl ?_
        refine S_ldQ rfl (p_agg (vs := c_T_api_Name p0.Name) ty_ag_24 ty_sz_24 rfl rfl) ?_
        refine S_bld (v := .agg (c_T_api_Name (⟨([] : List UInt8), ([] : List UInt8)⟩ : T_api_Name))) (b_st ty_zc_24 ty_pl_24 rfl) ?_
        refine S_bin rfl rfl (e_agg (b := ((p0.Name.URI == (⟨([] : List UInt8), ([] : List UInt8)⟩ : T_api_Name).URI) && ((p0.Name.Local == (⟨([] : List UInt8), ([] : List UInt8)⟩ : T_api_Name).Local) && true))) ty_qg_24 ty_sf_24 (by simp only [c_T_api_Name, ev_eqF_cons, ev_eqF_nil, ev_part, ty_sf_24, ty_qg_24, ty_ag_9, ty_sz_9, ty_st_9, ty_ag_9, ty_sz_9, ty_st_9, ev_eq_int, ev_eq_str, ev_eq_bool, ev_eq_agg, ev_eq_int2, ev_eq_str2, ev_eq_bool2, List.drop_zero, List.drop_succ_cons, List.length_cons, List.length_nil, List.take_succ_cons, List.take_zero, Option.isSome_some, if_true, Option.bind_some, Option.map_some, Nat.reduceAdd, Nat.reduceLeDiff])) ?_
        refine S_a (v := .bool _) rfl ?_
        refine S_nil ?_
        refine WP_ret ?_
        repeat (first | with_reducible refine Exit.sel_ret ?_ | with_reducible refine Exit.blk_ret ?_)
        refine C_ret (fn := Tryd.f23) rfl (.tmp (v := .bool ((p0.Name.URI == (⟨([] : List UInt8), ([] : List UInt8)⟩ : T_api_Name).URI) && ((p0.Name.Local == (⟨([] : List UInt8), ([] : List UInt8)⟩ : T_api_Name).Local) && true))) rfl .nil) ?_
        exact ⟨_, _, (.refl _), ok.wh, _, F_some hF, rfl, rfl⟩
      ·
        refine WP_skip ?_
        refine C_seq ?_
        refine C_reg (mdl []) ?_
        refine S_faQ rfl ty_fd_26_2 ty_sz_24 rfl ?_
        refine S_faQ rfl ty_fd_24_0 ty_sz_9 rfl ?_
        refine S_ldQ rfl (p_one ty_ag_9 ty_sz_9 rfl) ?_
        refine S_byt0 rfl rfl ty_sl_72 ty_st_9 ty_ki_5 ?_
        refine S_call (F_char_Fault_ok _ hF fun x7 _ hF => ?_) (.cons (.refl _) (.nil))
        refine S_m (v := .tup _) rfl ?_
        refine S_ext rfl rfl ?_
        refine S_ext rfl rfl ?_
        refine S_a (v := .int _ _) rfl ?_
        refine S_a (v := .int _ _) rfl ?_
        refine S_nil ?_
        refine C_seq ?_
        refine C_reg (mdl []) ?_
        refine S_faQ rfl ty_fd_26_2 ty_sz_24 rfl ?_
        refine S_faQ rfl ty_fd_24_1 ty_sz_9 rfl ?_
        refine S_ldQ rfl (p_one ty_ag_9 ty_sz_9 rfl) ?_
        refine S_call (F_char_Name_ok _ hF fun x8 _ hF => ?_) (.cons (.refl _) (.nil))
        refine S_m (v := .bool _) rfl ?_
        refine S_two (b := x8) 6 39 (.bool (x8 && (decide ((p0.Name.URI.length : Int) ≤ (100 : Int))))) (fun hb9 => ?_) (fun hb9 => ?_) ?_
        ·
          refine S_on rfl rfl hb9 ?_
          refine S_in ?_
          refine S_faQ rfl ty_fd_26_2 ty_sz_24 rfl ?_
          refine S_nil ?_
          refine S_on rfl rfl hb9 ?_
          refine S_in ?_
          refine S_faQ rfl ty_fd_24_0 ty_sz_9 rfl ?_
          refine S_nil ?_
          refine S_on rfl rfl hb9 ?_
          refine S_in ?_
          refine S_ldQ rfl (p_one ty_ag_9 ty_sz_9 rfl) ?_
          refine S_nil ?_
          refine S_on rfl rfl hb9 ?_
          refine S_in ?_
          refine S_lenS rfl ty_st_9 ?_
          refine S_nil ?_
          refine S_on rfl rfl hb9 ?_
          refine S_in ?_
          refine S_bin rfl rfl (ev_leq ..) ?_
          refine S_nil ?_
          refine S_pickT (v := .bool _) rfl hb9 rfl ?_
          refine S_nil ?_
          refine .hd (and_t hb9) ?_
          repeat (first | with_reducible exact WS.refl _ | refine WS.add ?_ rfl)
        ·
          refine S_off rfl rfl hb9 ?_
          refine S_offD ?_
          refine S_off rfl rfl hb9 ?_
          refine S_offD ?_
          refine S_off rfl rfl hb9 ?_
          refine S_offD ?_
          refine S_off rfl rfl hb9 ?_
          refine S_offD ?_
          refine S_off rfl rfl hb9 ?_
          refine S_offD ?_
          refine S_pickF (v := .bool _) rfl hb9 rfl ?_
          refine S_nil ?_
          refine .hd (and_f hb9) ?_
          repeat (first | with_reducible exact WS.refl _ | refine WS.add ?_ rfl)
        refine S_m (v := .bool _) rfl ?_
        refine S_two (b := (x8 && (decide ((p0.Name.URI.length : Int) ≤ (100 : Int))))) 3 43 (.bool ((x8 && (decide ((p0.Name.URI.length : Int) ≤ (100 : Int)))) && (x7.2 == (0 : Int)))) (fun hb10 => ?_) (fun hb10 => ?_) ?_
        ·
          refine S_on rfl rfl hb10 ?_
          refine S_in ?_
          refine S_m (v := .int _ _) rfl ?_
          refine S_nil ?_
          refine S_on rfl rfl hb10 ?_
          refine S_in ?_
          refine S_bin rfl rfl (ev_eql ..) ?_
          refine S_nil ?_
          refine S_pickT (v := .bool _) rfl hb10 rfl ?_
          refine S_nil ?_
          refine .hd (and_t hb10) ?_
          repeat (first | with_reducible exact WS.refl _ | refine WS.add ?_ rfl)
        ·
          refine S_off rfl rfl hb10 ?_
          refine S_offD ?_
          refine S_off rfl rfl hb10 ?_
          refine S_offD ?_
          refine S_pickF (v := .bool _) rfl hb10 rfl ?_
          refine S_nil ?_
          refine .hd (and_f hb10) ?_
          repeat (first | with_reducible exact WS.refl _ | refine WS.add ?_ rfl)
        refine S_a (v := .bool _) rfl ?_
        refine S_nil ?_
        refine WP_ret ?_
        repeat (first | with_reducible refine Exit.sel_ret ?_ | with_reducible refine Exit.blk_ret ?_)
        refine C_ret (fn := Tryd.f23) rfl (.tmp (v := .bool ((x8 && (decide ((p0.Name.URI.length : Int) ≤ (100 : Int)))) && (x7.2 == (0 : Int)))) rfl .nil) ?_
        exact ⟨_, _, (.refl _), ok.wh, _, F_some hF, rfl, rfl⟩
theorem F_trail_right_ok {β : Type} {f : Bool → Option β} {G : β → Prop} {R : D → Heap → Prop} {p0 : T_trail_Trail} (h : Heap) (hF : OptP ((F_trail_right p0).bind f) G) (hk : ∀ r, F_trail_right p0 = some r → OptP (f r) G → R (.bool r) h) : CallsA Tryd.prog 23 [.agg (c_T_trail_Trail p0)] h R := by
  obtain ⟨r0, hr, hF⟩ := F_bind hF
  refine (F_trail_right_w (G := fun r => r = r0) p0 h ⟨r0, hr, rfl⟩).mono ?_
  rintro _ _ ⟨r, rfl, rfl, rfl⟩
  exact hk _ hr hF
theorem F_cmp_Or_string_w (p0 : List (List UInt8)) {G : (List UInt8) → Prop} (h : Heap) (hF : OptP (F_cmp_Or_string p0) G) : CallsA Tryd.prog 25 [.sl 1 (List.map c_str p0) 0] h fun d h' => ∃ r, G r ∧ d = .str r ∧ h' = h := by
  refine CallsA.ret ?_
  refine C_body Tryd.func25 rfl en_25 Tryd.ntmps25 rfl (fun ok => ?_)
  rw [F_cmp_Or_string] at hF
  refine C_seq ?_
  refine C_reg (mdl []) ?_
  refine S_a (v := .str ([] : List UInt8)) rfl ?_
  refine S_nil ?_
  refine C_seq ?_
  refine C_reg (mdl []) ?_
  refine S_a (v := .str ([] : List UInt8)) rfl ?_
  refine S_nil ?_
  refine C_join hF (fun (_ : Unit) s' => OK h [] ∧ WS s' ⟨mkSl 18 [(3, .str ([] : List UInt8))], Hp h []⟩) (fun J5 hF => ?_) ?_
  ·
    refine C_seq ?_
    refine C_reg (mdl []) ?_
    refine S_m (v := .sl _ _ _) rfl ?_
    refine S_lenL rfl ty_sl_64 ?_
    refine S_m (v := .int _ _) rfl ?_
    refine S_nil ?_
    refine WP_block ?_
    refine C_loop (σ := Int) hF (fun (a6 : Int) s' => OK h [] ∧ WS s' ⟨mkSl 18 [(3, .str ([] : List UInt8)), (6, .sl 1 (List.map c_str p0) 0), (7, .int .i64 (p0.length : Int)), (8, .int .i64 a6)], Hp h []⟩) ?_ ?_
    ·
      have hwo : WO [] [] := .nil
      exact ⟨(hwo.spec ok).1, WS.mk' (.cons (.refl _) (.cons (.refl _) (.cons (.refl _) (.cons (.refl _) .nil)))) ok hwo⟩
    ·
      rintro G7 hG8 rec9 a6 s' ih10 hF ⟨ok, hws⟩
      refine WP_ws hws ?_
      clear hws s'
      rw [F_cmp_Or_string_l0] at hF
      refine C_seq ?_
      refine C_reg (mdl []) ?_
      refine S_bin rfl rfl (ev_lss ..) ?_
      refine S_nil ?_
      refine C_seq ?_
      refine C_if (b := (decide (a6 < (p0.length : Int)))) rfl hF (fun hb11 hF => ?_) (fun hb11 hF => ?_)
      ·
        refine WP_skip ?_
        refine C_seq ?_
        refine WP_block ?_
        refine C_seq ?_
        refine C_reg (mdl []) ?_
        refine S_ix rfl rfl ty_sl_64 ty_sz_9 hF (fun x12 _ hF => ?_)
        refine S_ldQ rfl (p_one ty_ag_9 ty_sz_9 rfl) ?_
        refine S_a (v := .str _) rfl ?_
        refine S_nil ?_
        refine C_seq ?_
        refine C_reg (mdl []) ?_
        refine S_m (v := .str _) rfl ?_
        refine S_m (v := .str _) rfl ?_
        refine S_bin rfl rfl e_sneq ?_
        refine S_nil ?_
        refine C_if (b := (!(x12 == ([] : List UInt8)))) rfl hF (fun hb13 hF => ?_) (fun hb13 hF => ?_)
        ·
          refine C_seq ?_
          refine C_reg (mdl []) ?_
          refine S_m (v := .str _) rfl ?_
          refine S_a (v := .str _) rfl ?_
          refine S_nil ?_
          refine WP_ret ?_
          replace hF := hG8 _ (F_some hF)
          repeat (first | with_reducible refine Exit.sel_ret ?_ | with_reducible refine Exit.blk_ret ?_)
          refine C_ret (fn := Tryd.f25) rfl (.tmp (v := .str x12) rfl .nil) ?_
          exact ⟨_, _, (.refl _), ok.wh, _, F_some hF, rfl, rfl⟩
        ·
          refine WP_skip ?_
          refine C_reg (mdl []) ?_
          refine S_bin rfl rfl (ev_add ..) ?_
          refine S_m (v := .int _ _) rfl ?_
          refine S_nil ?_
          refine ih10 (IntKind.wrap .i64 (a6 + (1 : Int))) _ hF ?_
          have hwo : WO [] [] := .nil
          exact ⟨(hwo.spec ok).1, WS.mk' (.cons (.refl _) (.cons (.refl _) (.cons (.refl _) (.cons (.refl _) .nil)))) ok hwo⟩
      ·
        refine WP_exit ?_
        simp only [Exit.sel, Exit.blk, if_true, if_false, reduceIte, Nat.reduceEqDiff, Nat.succ_ne_zero, Nat.zero_ne_one, Nat.one_ne_zero]
        replace hF := hG8 _ (F_some hF)
        have hwo : WO [] [] := .nil
        exact ⟨(), hF, (hwo.spec ok).1, WS.mk' (.cons (.refl _) .nil) ok hwo⟩
  ·
    rintro ⟨⟩ s' hF ⟨ok, hws⟩
    refine WP_ws hws ?_
    clear hws s'
    refine C_seq ?_
    refine C_reg (mdl []) ?_
    refine S_m (v := .str _) rfl ?_
    refine S_a (v := .str _) rfl ?_
    refine S_nil ?_
    refine WP_ret ?_
    repeat (first | with_reducible refine Exit.sel_ret ?_ | with_reducible refine Exit.blk_ret ?_)
    refine C_ret (fn := Tryd.f25) rfl (.tmp (v := .str ([] : List UInt8)) rfl .nil) ?_
    exact ⟨_, _, (.refl _), ok.wh, _, F_some hF, rfl, rfl⟩
theorem F_cmp_Or_string_ok {β : Type} {f : (List UInt8) → Option β} {G : β → Prop} {R : D → Heap → Prop} {p0 : List (List UInt8)} (h : Heap) (hF : OptP ((F_cmp_Or_string p0).bind f) G) (hk : ∀ r, F_cmp_Or_string p0 = some r → OptP (f r) G → R (.str r) h) : CallsA Tryd.prog 25 [.sl 1 (List.map c_str p0) 0] h R := by
  obtain ⟨r0, hr, hF⟩ := F_bind hF
  refine (F_cmp_Or_string_w (G := fun r => r = r0) p0 h ⟨r0, hr, rfl⟩).mono ?_
  rintro _ _ ⟨r, rfl, rfl, rfl⟩
  exact hk _ hr hF
theorem F_trail_Show_w (p0 : T_trail_Trail) {G : (List UInt8) × Int → Prop} (h : Heap) (hF : OptP (F_trail_Show p0) G) : CallsA Tryd.prog 10 [.agg (c_T_trail_Trail p0)] h fun d h' => ∃ r, G r ∧ d = .tup [.str r.1, .int .i64 r.2] ∧ h' = h := by
  refine CallsA.ret ?_
  refine C_body Tryd.func10 rfl en_10 Tryd.ntmps10 rfl (fun ok => ?_)
  rw [F_trail_Show] at hF
  refine C_seq ?_
  refine C_reg (mdl []) ?_
  refine S_box0 rfl rfl rfl rfl ?_
  refine S_a (v := .str ([] : List UInt8)) rfl ?_
  refine S_a (v := .int _ _) rfl ?_
  refine S_nil ?_
  refine C_seq ?_
  refine C_seq ?_
  refine C_reg (mdl []) ?_
  refine S_ldQ rfl (p_agg (vs := c_T_trail_Trail p0) ty_ag_26 ty_sz_26 rfl rfl) ?_
  refine S_call (F_trail_right_ok _ hF fun x1 _ hF => ?_) (.cons (.refl _) (.nil))
  refine S_un rfl (ev_not _) ?_
  refine S_nil ?_
  refine C_if (b := (!x1)) rfl hF (fun hb2 hF => ?_) (fun hb2 hF => ?_)
  ·
    refine C_seq ?_
    refine C_reg (mdl []) ?_
    refine S_a (v := .str ([] : List UInt8)) rfl ?_
    refine S_a (v := .int _ _) rfl ?_
    refine S_nil ?_
    refine WP_ret ?_
    repeat (first | with_reducible refine Exit.sel_ret ?_ | with_reducible refine Exit.blk_ret ?_)
    refine C_ret (fn := Tryd.f10) rfl (.tmp (v := .str ([] : List UInt8)) rfl (.tmp (v := .int .i64 (35 : Int)) rfl .nil)) ?_
    exact ⟨_, _, (.tupC (.cons (.refl _) (.cons (.refl _) (.nil)))), ok.wh, _, F_some hF, rfl, rfl⟩
  ·
    refine WP_skip ?_
    refine C_seq ?_
    refine C_reg (mdl []) ?_
    refine S_a (v := .str ([] : List UInt8)) rfl ?_
    refine S_nil ?_
    refine C_join hF (fun (a8 : (List UInt8)) s' => OK h [] ∧ WS s' ⟨mkSl 45 [(1, .iptr (c_T_trail_Trail p0)), (4, .str a8)], Hp h []⟩) (fun J9 hF => ?_) ?_
    ·
      refine C_seq ?_
      refine C_reg (mdl []) ?_
      refine S_faQ rfl ty_fd_26_0 ty_sz_22 rfl ?_
      refine S_ldQ rfl (p_one ty_ag_22 ty_sz_22 rfl) ?_
      refine S_lenL rfl ty_sl_22 ?_
      refine S_m (v := .int _ _) rfl ?_
      refine S_nil ?_
      refine WP_block ?_
      refine C_loop (σ := (List UInt8) × Int) hF (fun (v : (List UInt8) × Int) s' => match v with | (a10, a11) => OK h [] ∧ WS s' ⟨mkSl 45 [(1, .iptr (c_T_trail_Trail p0)), (4, .str a10), (11, .sl 1 (List.map c_i64 p0.Steps) 0), (12, .int .i64 (p0.Steps.length : Int)), (13, .int .i64 a11)], Hp h []⟩) ?_ ?_
      ·
        have hwo : WO [] [] := .nil
        exact ⟨(hwo.spec ok).1, WS.mk' (.cons (.refl _) (.cons (.refl _) (.cons (.refl _) (.cons (.refl _) (.cons (.refl _) .nil))))) ok hwo⟩
      ·
        rintro G12 hG13 rec14 ⟨a10, a11⟩ s' ih15 hF ⟨ok, hws⟩
        refine WP_ws hws ?_
        clear hws s'
        rw [F_trail_Show_l0] at hF
        refine C_seq ?_
        refine C_reg (mdl []) ?_
        refine S_bin rfl rfl (ev_lss ..) ?_
        refine S_nil ?_
        refine C_seq ?_
        refine C_if (b := (decide (a11 < (p0.Steps.length : Int)))) rfl hF (fun hb16 hF => ?_) (fun hb16 hF => ?_)
        ·
          refine WP_skip ?_
          refine C_seq ?_
          refine WP_block ?_
          refine C_seq ?_
          refine C_reg (mdl []) ?_
          refine S_ix rfl rfl ty_sl_22 ty_sz_3 hF (fun x17 _ hF => ?_)
          refine S_ldQ rfl (p_one ty_ag_3 ty_sz_3 rfl) ?_
          refine S_a (v := .int _ _) rfl ?_
          refine S_nil ?_
          refine C_reg (mdl []) ?_
          refine S_m (v := .str _) rfl ?_
          refine S_m (v := .int _ _) rfl ?_
          refine S_call (L_Itoa_ok _ hF fun x18 _ hF => ?_) (.cons (.refl _) (.nil))
          refine S_cat rfl rfl hF (fun hF => ?_)
          refine S_cat rfl rfl hF (fun hF => ?_)
          refine S_a (v := .str _) rfl ?_
          refine S_nil ?_
          refine C_reg (mdl []) ?_
          refine S_bin rfl rfl (ev_add ..) ?_
          refine S_m (v := .int _ _) rfl ?_
          refine S_nil ?_
          refine ih15 ((a10 ++ (([47] : List UInt8) ++ x18)), (IntKind.wrap .i64 (a11 + (1 : Int)))) _ hF ?_
          have hwo : WO [] [] := .nil
          exact ⟨(hwo.spec ok).1, WS.mk' (.cons (.refl _) (.cons (.refl _) (.cons (.refl _) (.cons (.refl _) (.cons (.refl _) .nil))))) ok hwo⟩
        ·
          refine WP_exit ?_
          simp only [Exit.sel, Exit.blk, if_true, if_false, reduceIte, Nat.reduceEqDiff, Nat.succ_ne_zero, Nat.zero_ne_one, Nat.one_ne_zero]
          replace hF := hG13 _ (F_some hF)
          have hwo : WO [] [] := .nil
          exact ⟨a10, hF, (hwo.spec ok).1, WS.mk' (.cons (.refl _) (.cons (.refl _) .nil)) ok hwo⟩
    ·
      rintro a8 s' hF ⟨ok, hws⟩
      refine WP_ws hws ?_
      clear hws s'
      refine C_join hF (fun (a21 : (List UInt8)) s' => OK h [] ∧ WS s' ⟨mkSl 45 [(4, .str a21)], Hp h []⟩) (fun J22 hF => ?_) ?_
      ·
        refine C_seq ?_
        refine C_reg (mdl []) ?_
        refine S_faQ rfl ty_fd_26_1 ty_sz_4 rfl ?_
        refine S_ldQ rfl (p_one ty_ag_4 ty_sz_4 rfl) ?_
        refine S_nil ?_
        refine C_if (b := p0.Attr) rfl hF (fun hb23 hF => ?_) (fun hb23 hF => ?_)
        ·
          refine C_seq ?_
          refine C_reg (mdl []) ?_
          refine S_m (v := .str _) rfl ?_
          refine S_faQ rfl ty_fd_26_2 ty_sz_24 rfl ?_
          refine S_faQ rfl ty_fd_24_1 ty_sz_9 rfl ?_
          refine S_ldQ rfl (p_one ty_ag_9 ty_sz_9 rfl) ?_
          refine S_cat rfl rfl hF (fun hF => ?_)
          refine S_cat rfl rfl hF (fun hF => ?_)
          refine S_a (v := .str _) rfl ?_
          refine S_nil ?_
          refine C_seq ?_
          refine C_reg (mdl []) ?_
          refine S_faQ rfl ty_fd_26_2 ty_sz_24 rfl ?_
          refine S_faQ rfl ty_fd_24_0 ty_sz_9 rfl ?_
          refine S_ldQ rfl (p_one ty_ag_9 ty_sz_9 rfl) ?_
          refine S_bin rfl rfl e_sneq ?_
          refine S_nil ?_
          refine C_if (b := (!(p0.Name.URI == ([] : List UInt8)))) rfl hF (fun hb24 hF => ?_) (fun hb24 hF => ?_)
          ·
            refine C_reg (mdl []) ?_
            refine S_m (v := .str _) rfl ?_
            refine S_faQ rfl ty_fd_26_2 ty_sz_24 rfl ?_
            refine S_faQ rfl ty_fd_24_0 ty_sz_9 rfl ?_
            refine S_ldQ rfl (p_one ty_ag_9 ty_sz_9 rfl) ?_
            refine S_cat rfl rfl hF (fun hF => ?_)
            refine S_cat rfl rfl hF (fun hF => ?_)
            refine S_cat rfl rfl hF (fun hF => ?_)
            refine S_a (v := .str _) rfl ?_
            refine S_nil ?_
            have hwo : WO [] [] := .nil
            exact ⟨((a8 ++ (([47, 64] : List UInt8) ++ p0.Name.Local)) ++ ((([123] : List UInt8) ++ p0.Name.URI) ++ ([125] : List UInt8))), hF, (hwo.spec ok).1, WS.mk' (.cons (.refl _) .nil) ok hwo⟩
          ·
            refine WP_skip ?_
            have hwo : WO [] [] := .nil
            exact ⟨(a8 ++ (([47, 64] : List UInt8) ++ p0.Name.Local)), hF, (hwo.spec ok).1, WS.mk' (.cons (.refl _) .nil) ok hwo⟩
        ·
          refine WP_skip ?_
          have hwo : WO [] [] := .nil
          exact ⟨a8, hF, (hwo.spec ok).1, WS.mk' (.cons (.refl _) .nil) ok hwo⟩
      ·
        rintro a21 s' hF ⟨ok, hws⟩
        refine WP_ws hws ?_
        clear hws s'
        refine C_seq ?_
        refine C_reg (mdl []) ?_
        refine S_m (v := .str _) rfl ?_
        refine S_lit0 (cs := [.str a21, .str ([47] : List UInt8)]) (es := (List.map c_str [a21, ([47] : List UInt8)])) rfl ty_el_64 rfl (by kernel_rfl) (by kernel_rfl) ?_
        refine S_call (F_cmp_Or_string_ok _ hF fun x25 _ hF => ?_) (.cons (.refl _) (.nil))
        refine S_a (v := .str _) rfl ?_
        refine S_a (v := .int _ _) rfl ?_
        refine S_nil ?_
        refine WP_ret ?_
        repeat (first | with_reducible refine Exit.sel_ret ?_ | with_reducible refine Exit.blk_ret ?_)
        refine C_ret (fn := Tryd.f10) rfl (.tmp (v := .str x25) rfl (.tmp (v := .int .i64 (0 : Int)) rfl .nil)) ?_
        exact ⟨_, _, (.tupC (.cons (.refl _) (.cons (.refl _) (.nil)))), ok.wh, _, F_some hF, rfl, rfl⟩
theorem F_trail_Show_ok {β : Type} {f : (List UInt8) × Int → Option β} {G : β → Prop} {R : D → Heap → Prop} {p0 : T_trail_Trail} (h : Heap) (hF : OptP ((F_trail_Show p0).bind f) G) (hk : ∀ r, F_trail_Show p0 = some r → OptP (f r) G → R (.tup [.str r.1, .int .i64 r.2]) h) : CallsA Tryd.prog 10 [.agg (c_T_trail_Trail p0)] h R := by
  obtain ⟨r0, hr, hF⟩ := F_bind hF
  refine (F_trail_Show_w (G := fun r => r = r0) p0 h ⟨r0, hr, rfl⟩).mono ?_
  rintro _ _ ⟨r, rfl, rfl, rfl⟩
  exact hk _ hr hF
theorem F_stringslite_HasSuffix_w (p0 : List UInt8) (p1 : List UInt8) {G : Bool → Prop} (h : Heap) (hF : OptP (F_stringslite_HasSuffix p0 p1) G) : CallsA Tryd.prog 49 [.str p0, .str p1] h fun d h' => ∃ r, G r ∧ d = .bool r ∧ h' = h := by
  refine CallsA.ret ?_
  refine C_body Tryd.func49 rfl en_49 Tryd.ntmps49 rfl (fun ok => ?_)
  rw [F_stringslite_HasSuffix] at hF
  refine C_seq ?_
  refine C_reg (mdl []) ?_
  refine S_a (v := .bool _) rfl ?_
  refine S_nil ?_
  refine C_seq ?_
  refine C_reg (mdl []) ?_
  refine S_m (v := .str _) rfl ?_
  refine S_lenS rfl ty_st_9 ?_
  refine S_m (v := .str _) rfl ?_
  refine S_lenS rfl ty_st_9 ?_
  refine S_bin rfl rfl (ev_geq ..) ?_
  refine S_m (v := .bool _) rfl ?_
  refine S_twoJ 10 20 hF (fun J2 hb1 hF => ?_) (fun J2 hb1 hF => ?_) (fun v3 hF => ?_)
  ·
    refine S_on rfl rfl hb1 ?_
    refine S_in ?_
    refine S_m (v := .str _) rfl ?_
    refine S_nil ?_
    refine S_on rfl rfl hb1 ?_
    refine S_in ?_
    refine S_m (v := .str _) rfl ?_
    refine S_nil ?_
    refine S_on rfl rfl hb1 ?_
    refine S_in ?_
    refine S_lenS rfl ty_st_9 ?_
    refine S_nil ?_
    refine S_on rfl rfl hb1 ?_
    refine S_in ?_
    refine S_m (v := .str _) rfl ?_
    refine S_nil ?_
    refine S_on rfl rfl hb1 ?_
    refine S_in ?_
    refine S_lenS rfl ty_st_9 ?_
    refine S_nil ?_
    refine S_on rfl rfl hb1 ?_
    refine S_in ?_
    refine S_bin rfl rfl (ev_sub ..) ?_
    refine S_nil ?_
    refine S_on rfl rfl hb1 ?_
    refine S_in ?_
    refine S_slS rfl ty_st_9 (bd_at rfl) bd_no hF (fun x4 _ hF => ?_)
    refine S_nil ?_
    refine S_on rfl rfl hb1 ?_
    refine S_in ?_
    refine S_m (v := .str _) rfl ?_
    refine S_nil ?_
    refine S_on rfl rfl hb1 ?_
    refine S_in ?_
    refine S_bin rfl rfl e_seql ?_
    refine S_nil ?_
    refine S_pickT (v := .bool _) rfl hb1 rfl ?_
    refine S_nil ?_
    refine ⟨_, hF, .hd (.refl _) ?_⟩
    repeat (first | with_reducible exact WS.refl _ | refine WS.add ?_ rfl)
  ·
    refine S_off rfl rfl hb1 ?_
    refine S_offD ?_
    refine S_off rfl rfl hb1 ?_
    refine S_offD ?_
    refine S_off rfl rfl hb1 ?_
    refine S_offD ?_
    refine S_off rfl rfl hb1 ?_
    refine S_offD ?_
    refine S_off rfl rfl hb1 ?_
    refine S_offD ?_
    refine S_off rfl rfl hb1 ?_
    refine S_offD ?_
    refine S_off rfl rfl hb1 ?_
    refine S_offD ?_
    refine S_off rfl rfl hb1 ?_
    refine S_offD ?_
    refine S_off rfl rfl hb1 ?_
    refine S_offD ?_
    refine S_pickF (v := .bool _) rfl hb1 rfl ?_
    refine S_nil ?_
    refine ⟨_, hF, .hd (.refl _) ?_⟩
    repeat (first | with_reducible exact WS.refl _ | refine WS.add ?_ rfl)
  ·
    refine S_a (v := .bool _) rfl ?_
    refine S_nil ?_
    refine WP_ret ?_
    repeat (first | with_reducible refine Exit.sel_ret ?_ | with_reducible refine Exit.blk_ret ?_)
    refine C_ret (fn := Tryd.f49) rfl (.tmp (v := .bool v3) rfl .nil) ?_
    exact ⟨_, _, (.refl _), ok.wh, _, F_some hF, rfl, rfl⟩
theorem F_stringslite_HasSuffix_ok {β : Type} {f : Bool → Option β} {G : β → Prop} {R : D → Heap → Prop} {p0 : List UInt8} {p1 : List UInt8} (h : Heap) (hF : OptP ((F_stringslite_HasSuffix p0 p1).bind f) G) (hk : ∀ r, F_stringslite_HasSuffix p0 p1 = some r → OptP (f r) G → R (.bool r) h) : CallsA Tryd.prog 49 [.str p0, .str p1] h R := by
  obtain ⟨r0, hr, hF⟩ := F_bind hF
  refine (F_stringslite_HasSuffix_w (G := fun r => r = r0) p0 p1 h ⟨r0, hr, rfl⟩).mono ?_
  rintro _ _ ⟨r, rfl, rfl, rfl⟩
  exact hk _ hr hF
theorem F_strings_HasSuffix_w (p0 : List UInt8) (p1 : List UInt8) {G : Bool → Prop} (h : Heap) (hF : OptP (F_strings_HasSuffix p0 p1) G) : CallsA Tryd.prog 28 [.str p0, .str p1] h fun d h' => ∃ r, G r ∧ d = .bool r ∧ h' = h := by
  refine CallsA.ret ?_
  refine C_body Tryd.func28 rfl en_28 Tryd.ntmps28 rfl (fun ok => ?_)
  rw [F_strings_HasSuffix] at hF
  refine C_seq ?_
  refine C_reg (mdl []) ?_
  refine S_a (v := .bool _) rfl ?_
  refine S_nil ?_
  refine C_seq ?_
  refine C_reg (mdl []) ?_
  refine S_m (v := .str _) rfl ?_
  refine S_m (v := .str _) rfl ?_
  refine S_call (F_stringslite_HasSuffix_ok _ hF fun x1 _ hF => ?_) (.cons (.refl _) (.cons (.refl _) (.nil)))
  refine S_a (v := .bool _) rfl ?_
  refine S_nil ?_
  refine WP_ret ?_
  repeat (first | with_reducible refine Exit.sel_ret ?_ | with_reducible refine Exit.blk_ret ?_)
  refine C_ret (fn := Tryd.f28) rfl (.tmp (v := .bool x1) rfl .nil) ?_
  exact ⟨_, _, (.refl _), ok.wh, _, F_some hF, rfl, rfl⟩
theorem F_strings_HasSuffix_ok {β : Type} {f : Bool → Option β} {G : β → Prop} {R : D → Heap → Prop} {p0 : List UInt8} {p1 : List UInt8} (h : Heap) (hF : OptP ((F_strings_HasSuffix p0 p1).bind f) G) (hk : ∀ r, F_strings_HasSuffix p0 p1 = some r → OptP (f r) G → R (.bool r) h) : CallsA Tryd.prog 28 [.str p0, .str p1] h R := by
  obtain ⟨r0, hr, hF⟩ := F_bind hF
  refine (F_strings_HasSuffix_w (G := fun r => r = r0) p0 p1 h ⟨r0, hr, rfl⟩).mono ?_
  rintro _ _ ⟨r, rfl, rfl, rfl⟩
  exact hk _ hr hF
theorem F_trail_Read_w (p0 : List UInt8) {G : T_trail_Trail × Int → Prop} (h : Heap) (hF : OptP (F_trail_Read p0) G) : CallsA Tryd.prog 11 [.str p0] h fun d h' => ∃ r, G r ∧ d = .tup [.agg (c_T_trail_Trail r.1), .int .i64 r.2] ∧ h' = h := by
  refine CallsA.ret ?_
  refine C_body Tryd.func11 rfl en_11 Tryd.ntmps11 rfl (fun ok => ?_)
  rw [F_trail_Read] at hF
  refine C_seq ?_
  refine C_reg (mdl [(2, 1)]) ?_
  refine S_all1 ok rfl ty_zc_26 ?_
  intro i1 hi1 ok
  refine S_a (v := .int _ _) rfl ?_
  refine S_nil ?_
  refine C_seq ?_
  refine C_reg (mdl [(4, 1)]) ?_
  refine S_all1 ok rfl ty_zc_26 ?_
  intro i2 hi2 ok
  refine S_ghostO 0 0 1 (fun r3 => [.sl 1 (List.map c_i64 ([] : List Int)) r3, .bool false, .str ([] : List UInt8), .str ([] : List UInt8)]) ok rfl hi2 rfl (fun _ => rfl) ?_
  intro r3 hr3 ok
  refine S_nil ?_
  refine C_seq ?_
  refine C_reg (mdl []) ?_
  refine S_m (v := .str _) rfl ?_
  refine S_call (L_Cut_ok _ hF fun x4 _ hF => ?_) (.cons (.refl _) (.cons (.refl _) (.nil)))
  refine S_m (v := .tup _) rfl ?_
  refine S_ext rfl rfl ?_
  refine S_ext rfl rfl ?_
  refine S_ext rfl rfl ?_
  refine S_a (v := .str _) rfl ?_
  refine S_a (v := .str _) rfl ?_
  refine S_a (v := .bool _) rfl ?_
  refine S_nil ?_
  refine C_join hF (fun (v : Bool × (List UInt8) × (List UInt8)) s' => match v with | (a14, a15, a16) => OK h [(r3, .room), (i2, .cells [.sl 1 (List.map c_i64 ([] : List Int)) r3, .bool a14, .str a15, .str a16]), (i1, .cells [.sl 1 (List.map c_i64 ([] : List Int)) 0, .bool false, .str ([] : List UInt8), .str ([] : List UInt8)])] ∧ WS s' ⟨mkSl 87 [(0, .str p0), (2, .ptr i1 0), (4, .ptr i2 0), (5, .str x4.1)], Hp h [(r3, .room), (i2, .cells [.sl 1 (List.map c_i64 ([] : List Int)) r3, .bool a14, .str a15, .str a16]), (i1, .cells [.sl 1 (List.map c_i64 ([] : List Int)) 0, .bool false, .str ([] : List UInt8), .str ([] : List UInt8)])]⟩) (fun J17 hF => ?_) ?_
  ·
    refine C_seq ?_
    refine C_reg (mdl []) ?_
    refine S_m (v := .bool _) rfl ?_
    refine S_nil ?_
    refine C_if (b := x4.2.2) rfl hF (fun hb18 hF => ?_) (fun hb18 hF => ?_)
    ·
      refine C_seq ?_
      refine C_reg (mdl []) ?_
      refine S_faP rfl ty_fd_26_1 ty_sz_4 ?_
      refine S_st (j := 1) (cs' := [.sl 1 (List.map c_i64 ([] : List Int)) r3, .bool true, .str ([] : List UInt8), .str ([] : List UInt8)]) ok rfl rfl rfl hi2 rfl ty_sz_4 rfl rfl (fun ok => ?_)
      refine S_nil ?_
      refine C_seq ?_
      refine C_reg (mdl []) ?_
      refine S_m (v := .str _) rfl ?_
      refine S_faP rfl ty_fd_26_2 ty_sz_24 ?_
      refine S_faP rfl ty_fd_24_1 ty_sz_9 ?_
      refine S_st (j := 1) (cs' := [.sl 1 (List.map c_i64 ([] : List Int)) r3, .bool true, .str ([] : List UInt8), .str x4.2.1]) ok rfl rfl rfl hi2 rfl ty_sz_9 rfl rfl (fun ok => ?_)
      refine S_nil ?_
      refine C_seq ?_
      refine C_reg (mdl []) ?_
      refine S_m (v := .str _) rfl ?_
      refine S_call (L_IndexByte_ok _ hF fun x19 _ hF => ?_) (.cons (.refl _) (.cons (.refl _) (.nil)))
      refine S_a (v := .int _ _) rfl ?_
      refine S_nil ?_
      refine C_seq ?_
      refine C_reg (mdl []) ?_
      refine S_m (v := .int _ _) rfl ?_
      refine S_bin rfl rfl (ev_geq ..) ?_
      refine S_m (v := .bool _) rfl ?_
      refine S_twoJ 3 33 hF (fun J21 hb20 hF => ?_) (fun J21 hb20 hF => ?_) (fun v22 hF => ?_)
      ·
        refine S_on rfl rfl hb20 ?_
        refine S_in ?_
        refine S_m (v := .str _) rfl ?_
        refine S_nil ?_
        refine S_on rfl rfl hb20 ?_
        refine S_in ?_
        refine S_call (F_strings_HasSuffix_ok _ hF fun x23 _ hF => ?_) (.cons (.refl _) (.cons (.refl _) (.nil)))
        refine S_nil ?_
        refine S_pickT (v := .bool _) rfl hb20 rfl ?_
        refine S_nil ?_
        refine ⟨_, hF, .hd (.refl _) ?_⟩
        repeat (first | with_reducible exact WS.refl _ | refine WS.add ?_ rfl)
      ·
        refine S_off rfl rfl hb20 ?_
        refine S_offD ?_
        refine S_off rfl rfl hb20 ?_
        refine S_offD ?_
        refine S_pickF (v := .bool _) rfl hb20 rfl ?_
        refine S_nil ?_
        refine ⟨_, hF, .hd (.refl _) ?_⟩
        repeat (first | with_reducible exact WS.refl _ | refine WS.add ?_ rfl)
      ·
        refine S_nil ?_
        refine C_if (b := v22) rfl hF (fun hb24 hF => ?_) (fun hb24 hF => ?_)
        ·
          refine C_drw (mdl []) (by kernel_rfl) (by kernel_rfl) ?_
          refine S_m (v := .str _) rfl ?_
          refine S_m (v := .int _ _) rfl ?_
          refine S_bin rfl rfl (ev_add ..) ?_
          refine S_m (v := .str _) rfl ?_
          refine S_lenS rfl ty_st_9 ?_
          refine S_bin rfl rfl (ev_sub ..) ?_
          refine S_slS rfl ty_st_9 (bd_at rfl) (bd_at rfl) hF (fun x25 _ hF => ?_)
          refine S_m (v := .str _) rfl ?_
          refine S_m (v := .int _ _) rfl ?_
          refine S_slS rfl ty_st_9 bd_no (bd_at rfl) hF (fun x26 _ hF => ?_)
          refine S_bld (v := .agg (c_T_api_Name (⟨x25, x26⟩ : T_api_Name))) (b_st ty_zc_24 ty_pl_24 rfl) ?_
          refine S_faP rfl ty_fd_26_2 ty_sz_24 ?_
          refine S_st (j := 1) (cs' := [.sl 1 (List.map c_i64 ([] : List Int)) r3, .bool true, .str (⟨x25, x26⟩ : T_api_Name).URI, .str (⟨x25, x26⟩ : T_api_Name).Local]) ok rfl rfl rfl hi2 rfl ty_sz_24 rfl rfl (fun ok => ?_)
          refine S_nil ?_
          have hwo : WO [(r3, .room), (i2, .cells [.sl 1 (List.map c_i64 ([] : List Int)) r3, .bool true, .str (⟨x25, x26⟩ : T_api_Name).URI, .str (⟨x25, x26⟩ : T_api_Name).Local]), (i1, .cells [.snil, .bool false, .str ([] : List UInt8), .str ([] : List UInt8)])] [(r3, .room), (i2, .cells [.sl 1 (List.map c_i64 ([] : List Int)) r3, .bool true, .str (⟨x25, x26⟩ : T_api_Name).URI, .str (⟨x25, x26⟩ : T_api_Name).Local]), (i1, .cells [.sl 1 (List.map c_i64 ([] : List Int)) 0, .bool false, .str ([] : List UInt8), .str ([] : List UInt8)])] := (.keep (.keep (.weak (.cons (.nil _) (.cons (.refl _) (.cons (.refl _) (.cons (.refl _) (.nil))))) .nil)))
          exact ⟨(true, (⟨x25, x26⟩ : T_api_Name).URI, (⟨x25, x26⟩ : T_api_Name).Local), hF, (hwo.spec ok).1, WS.mk' (.cons (.refl _) (.cons (.refl _) (.cons (.refl _) (.cons (.refl _) .nil)))) ok hwo⟩
        ·
          refine WP_skip ?_
          have hwo : WO [(r3, .room), (i2, .cells [.sl 1 (List.map c_i64 ([] : List Int)) r3, .bool true, .str ([] : List UInt8), .str x4.2.1]), (i1, .cells [.snil, .bool false, .str ([] : List UInt8), .str ([] : List UInt8)])] [(r3, .room), (i2, .cells [.sl 1 (List.map c_i64 ([] : List Int)) r3, .bool true, .str ([] : List UInt8), .str x4.2.1]), (i1, .cells [.sl 1 (List.map c_i64 ([] : List Int)) 0, .bool false, .str ([] : List UInt8), .str ([] : List UInt8)])] := (.keep (.keep (.weak (.cons (.nil _) (.cons (.refl _) (.cons (.refl _) (.cons (.refl _) (.nil))))) .nil)))
          exact ⟨(true, ([] : List UInt8), x4.2.1), hF, (hwo.spec ok).1, WS.mk' (.cons (.refl _) (.cons (.refl _) (.cons (.refl _) (.cons (.refl _) .nil)))) ok hwo⟩
    ·
      refine WP_skip ?_
      have hwo : WO [(r3, .room), (i2, .cells [.sl 1 (List.map c_i64 ([] : List Int)) r3, .bool false, .str ([] : List UInt8), .str ([] : List UInt8)]), (i1, .cells [.snil, .bool false, .str ([] : List UInt8), .str ([] : List UInt8)])] [(r3, .room), (i2, .cells [.sl 1 (List.map c_i64 ([] : List Int)) r3, .bool false, .str ([] : List UInt8), .str ([] : List UInt8)]), (i1, .cells [.sl 1 (List.map c_i64 ([] : List Int)) 0, .bool false, .str ([] : List UInt8), .str ([] : List UInt8)])] := (.keep (.keep (.weak (.cons (.nil _) (.cons (.refl _) (.cons (.refl _) (.cons (.refl _) (.nil))))) .nil)))
      exact ⟨(false, ([] : List UInt8), ([] : List UInt8)), hF, (hwo.spec ok).1, WS.mk' (.cons (.refl _) (.cons (.refl _) (.cons (.refl _) (.cons (.refl _) .nil)))) ok hwo⟩
  ·
    rintro ⟨a14, a15, a16⟩ s' hF ⟨ok, hws⟩
    refine WP_ws hws ?_
    clear hws s'
    refine C_join hF (fun (v : (List Int) × Bool × (List UInt8) × (List UInt8)) s' => match v with | (a47, a49, a50, a51) => ∃ g48 : Nat, g48 ≠ 0 ∧ OK h [(g48, .room), (i2, .cells [.sl 1 (List.map c_i64 a47) g48, .bool a49, .str a50, .str a51]), (i1, .cells [.sl 1 (List.map c_i64 ([] : List Int)) 0, .bool false, .str ([] : List UInt8), .str ([] : List UInt8)])] ∧ WS s' ⟨mkSl 87 [(0, .str p0), (2, .ptr i1 0), (4, .ptr i2 0)], Hp h [(g48, .room), (i2, .cells [.sl 1 (List.map c_i64 a47) g48, .bool a49, .str a50, .str a51]), (i1, .cells [.sl 1 (List.map c_i64 ([] : List Int)) 0, .bool false, .str ([] : List UInt8), .str ([] : List UInt8)])]⟩) (fun J52 hF => ?_) ?_
    ·
      refine C_seq ?_
      refine C_reg (mdl []) ?_
      refine S_m (v := .str _) rfl ?_
      refine S_call (L_Split_ok _ hF fun x53 _ hF => ?_) (.cons (.refl _) (.cons (.refl _) (.nil)))
      refine S_lenL rfl ty_sl_64 ?_
      refine S_m (v := .int _ _) rfl ?_
      refine S_nil ?_
      refine WP_block ?_
      refine C_loop (σ := (List Int) × Bool × (List UInt8) × (List UInt8) × Int) hF (fun (v : (List Int) × Bool × (List UInt8) × (List UInt8) × Int) s' => match v with | (a54, a56, a57, a58, a59) => ∃ g55 : Nat, g55 ≠ 0 ∧ OK h [(g55, .room), (i2, .cells [.sl 1 (List.map c_i64 a54) g55, .bool a56, .str a57, .str a58]), (i1, .cells [.sl 1 (List.map c_i64 ([] : List Int)) 0, .bool false, .str ([] : List UInt8), .str ([] : List UInt8)])] ∧ WS s' ⟨mkSl 87 [(0, .str p0), (2, .ptr i1 0), (4, .ptr i2 0), (47, .sl 1 (List.map c_str x53) 0), (48, .int .i64 (x53.length : Int)), (49, .int .i64 a59)], Hp h [(g55, .room), (i2, .cells [.sl 1 (List.map c_i64 a54) g55, .bool a56, .str a57, .str a58]), (i1, .cells [.sl 1 (List.map c_i64 ([] : List Int)) 0, .bool false, .str ([] : List UInt8), .str ([] : List UInt8)])]⟩) ?_ ?_
      ·
        have hwo : WO [(r3, .room), (i2, .cells [.sl 1 (List.map c_i64 ([] : List Int)) r3, .bool a14, .str a15, .str a16]), (i1, .cells [.sl 1 (List.map c_i64 ([] : List Int)) 0, .bool false, .str ([] : List UInt8), .str ([] : List UInt8)])] [(r3, .room), (i2, .cells [.sl 1 (List.map c_i64 ([] : List Int)) r3, .bool a14, .str a15, .str a16]), (i1, .cells [.sl 1 (List.map c_i64 ([] : List Int)) 0, .bool false, .str ([] : List UInt8), .str ([] : List UInt8)])] := (.keep (.keep (.keep .nil)))
        exact ⟨r3, hr3, (hwo.spec ok).1, WS.mk' (.cons (.refl _) (.cons (.refl _) (.cons (.refl _) (.cons (.refl _) (.cons (.refl _) (.cons (.refl _) .nil)))))) ok hwo⟩
      ·
        rintro G60 hG61 rec62 ⟨a54, a56, a57, a58, a59⟩ s' ih63 hF ⟨g55, hg55, ok, hws⟩
        refine WP_ws hws ?_
        clear hws s'
        rw [F_trail_Read_l0] at hF
        refine C_seq ?_
        refine C_reg (mdl []) ?_
        refine S_bin rfl rfl (ev_lss ..) ?_
        refine S_nil ?_
        refine C_seq ?_
        refine C_if (b := (decide (a59 < (x53.length : Int)))) rfl hF (fun hb64 hF => ?_) (fun hb64 hF => ?_)
        ·
          refine WP_skip ?_
          refine C_join hF (fun (a70 : (List Int)) s' => ∃ g71 : Nat, g71 ≠ 0 ∧ OK h [(g71, .room), (i2, .cells [.sl 1 (List.map c_i64 a70) g71, .bool a56, .str a57, .str a58]), (i1, .cells [.sl 1 (List.map c_i64 ([] : List Int)) 0, .bool false, .str ([] : List UInt8), .str ([] : List UInt8)])] ∧ WS s' ⟨mkSl 87 [(0, .str p0), (2, .ptr i1 0), (4, .ptr i2 0), (47, .sl 1 (List.map c_str x53) 0), (48, .int .i64 (x53.length : Int)), (49, .int .i64 a59)], Hp h [(g71, .room), (i2, .cells [.sl 1 (List.map c_i64 a70) g71, .bool a56, .str a57, .str a58]), (i1, .cells [.sl 1 (List.map c_i64 ([] : List Int)) 0, .bool false, .str ([] : List UInt8), .str ([] : List UInt8)])]⟩) (fun J72 hF => ?_) ?_
          ·
            refine WP_block ?_
            refine C_seq ?_
            refine C_reg (mdl []) ?_
            refine S_ix rfl rfl ty_sl_64 ty_sz_9 hF (fun x73 _ hF => ?_)
            refine S_ldQ rfl (p_one ty_ag_9 ty_sz_9 rfl) ?_
            refine S_a (v := .str _) rfl ?_
            refine S_nil ?_
            refine C_seq ?_
            refine C_reg (mdl []) ?_
            refine S_m (v := .str _) rfl ?_
            refine S_call (L_Atoi_ok _ hF fun x74 _ hF => ?_) (.cons (.refl _) (.nil))
            refine S_m (v := .tup _) rfl ?_
            refine S_ext rfl rfl ?_
            refine S_ext rfl rfl ?_
            refine S_a (v := .int _ _) rfl ?_
            refine S_a (v := ifD _) rfl ?_
            refine S_nil ?_
            refine C_seq ?_
            refine C_reg (mdl []) ?_
            refine S_m (v := ifD _) rfl ?_
            refine S_ifE rfl rfl ty_if_67 ?_
            refine S_m (v := .bool _) rfl ?_
            refine S_two (b := (!x74.2)) 5 65 (.bool ((!x74.2) && (decide ((a54.length : Int) ≤ (64 : Int))))) (fun hb75 => ?_) (fun hb75 => ?_) ?_
            ·
              refine S_on rfl rfl hb75 ?_
              refine S_in ?_
              refine S_faP rfl ty_fd_26_0 ty_sz_22 ?_
              refine S_nil ?_
              refine S_on rfl rfl hb75 ?_
              refine S_in ?_
              refine S_ldP (j := 1) ok rfl rfl rfl hi2 (p_one (v := .sl 1 (List.map c_i64 a54) g55) ty_ag_22 ty_sz_22 rfl) ?_
              refine S_nil ?_
              refine S_one 62 (v := .sl 1 (List.map c_i64 a54) 0) (.zero _ _ _) ?_
              refine S_on rfl rfl hb75 ?_
              refine S_in ?_
              refine S_lenL rfl ty_sl_22 ?_
              refine S_nil ?_
              refine S_on rfl rfl hb75 ?_
              refine S_in ?_
              refine S_bin rfl rfl (ev_leq ..) ?_
              refine S_nil ?_
              refine S_pickT (v := .bool _) rfl hb75 rfl ?_
              refine S_nil ?_
              refine .hd (and_t hb75) ?_
              repeat (first | with_reducible exact WS.refl _ | refine WS.add ?_ rfl)
            ·
              refine S_off rfl rfl hb75 ?_
              refine S_offD ?_
              refine S_off rfl rfl hb75 ?_
              refine S_offD ?_
              refine S_off rfl rfl hb75 ?_
              refine S_offD ?_
              refine S_off rfl rfl hb75 ?_
              refine S_offD ?_
              refine S_pickF (v := .bool _) rfl hb75 rfl ?_
              refine S_nil ?_
              refine .hd (and_f hb75) ?_
              repeat (first | with_reducible exact WS.refl _ | refine WS.add ?_ rfl)
            refine S_nil ?_
            refine C_if (b := ((!x74.2) && (decide ((a54.length : Int) ≤ (64 : Int))))) rfl hF (fun hb76 hF => ?_) (fun hb76 hF => ?_)
            ·
              refine C_reg (mdl [(70, 2)]) ?_
              refine S_faP rfl ty_fd_26_0 ty_sz_22 ?_
              refine S_ldP (j := 1) ok rfl rfl rfl hi2 (p_one (v := .sl 1 (List.map c_i64 a54) g55) ty_ag_22 ty_sz_22 rfl) ?_
              refine S_m (v := .int _ _) rfl ?_
              refine S_lit0 (cs := [.int .i64 x74.1]) (es := (List.map c_i64 [x74.1])) rfl ty_el_22 rfl (by kernel_rfl) (by kernel_rfl) ?_
              refine S_app (j := 0) ok rfl rfl rfl rfl hg55 ty_el_22 ty_ni_22 hF ?_
              intro r77 hr77 ok hF
              refine S_faP rfl ty_fd_26_0 ty_sz_22 ?_
              refine S_st (j := 1) (cs' := [.sl 1 (List.map c_i64 (a54 ++ [x74.1])) r77, .bool a56, .str a57, .str a58]) ok rfl rfl rfl hi2 rfl ty_sz_22 rfl rfl (fun ok => ?_)
              refine S_nil ?_
              have hwo : WO [(r77, .room), (i2, .cells [.sl 1 (List.map c_i64 (a54 ++ [x74.1])) r77, .bool a56, .str a57, .str a58]), (i1, .cells [.sl 1 (List.map c_i64 ([] : List Int)) 0, .bool false, .str ([] : List UInt8), .str ([] : List UInt8)])] [(r77, .room), (i2, .cells [.sl 1 (List.map c_i64 (a54 ++ [x74.1])) r77, .bool a56, .str a57, .str a58]), (i1, .cells [.sl 1 (List.map c_i64 ([] : List Int)) 0, .bool false, .str ([] : List UInt8), .str ([] : List UInt8)])] := (.keep (.keep (.keep .nil)))
              exact ⟨(a54 ++ [x74.1]), hF, r77, hr77, (hwo.spec ok).1, WS.mk' (.cons (.refl _) (.cons (.refl _) (.cons (.refl _) (.cons (.refl _) (.cons (.refl _) (.cons (.refl _) .nil)))))) ok hwo⟩
            ·
              refine WP_skip ?_
              have hwo : WO [(g55, .room), (i2, .cells [.sl 1 (List.map c_i64 a54) g55, .bool a56, .str a57, .str a58]), (i1, .cells [.sl 1 (List.map c_i64 ([] : List Int)) 0, .bool false, .str ([] : List UInt8), .str ([] : List UInt8)])] [(g55, .room), (i2, .cells [.sl 1 (List.map c_i64 a54) g55, .bool a56, .str a57, .str a58]), (i1, .cells [.sl 1 (List.map c_i64 ([] : List Int)) 0, .bool false, .str ([] : List UInt8), .str ([] : List UInt8)])] := (.keep (.keep (.keep .nil)))
              exact ⟨a54, hF, g55, hg55, (hwo.spec ok).1, WS.mk' (.cons (.refl _) (.cons (.refl _) (.cons (.refl _) (.cons (.refl _) (.cons (.refl _) (.cons (.refl _) .nil)))))) ok hwo⟩
          ·
            rintro a70 s' hF ⟨g71, hg71, ok, hws⟩
            refine WP_ws hws ?_
            clear hws s'
            refine C_reg (mdl []) ?_
            refine S_bin rfl rfl (ev_add ..) ?_
            refine S_m (v := .int _ _) rfl ?_
            refine S_nil ?_
            refine ih63 (a70, a56, a57, a58, (IntKind.wrap .i64 (a59 + (1 : Int)))) _ hF ?_
            have hwo : WO [(g71, .room), (i2, .cells [.sl 1 (List.map c_i64 a70) g71, .bool a56, .str a57, .str a58]), (i1, .cells [.sl 1 (List.map c_i64 ([] : List Int)) 0, .bool false, .str ([] : List UInt8), .str ([] : List UInt8)])] [(g71, .room), (i2, .cells [.sl 1 (List.map c_i64 a70) g71, .bool a56, .str a57, .str a58]), (i1, .cells [.sl 1 (List.map c_i64 ([] : List Int)) 0, .bool false, .str ([] : List UInt8), .str ([] : List UInt8)])] := (.keep (.keep (.keep .nil)))
            exact ⟨g71, hg71, (hwo.spec ok).1, WS.mk' (.cons (.refl _) (.cons (.refl _) (.cons (.refl _) (.cons (.refl _) (.cons (.refl _) (.cons (.refl _) .nil)))))) ok hwo⟩
        ·
          refine WP_exit ?_
          simp only [Exit.sel, Exit.blk, if_true, if_false, reduceIte, Nat.reduceEqDiff, Nat.succ_ne_zero, Nat.zero_ne_one, Nat.one_ne_zero]
          replace hF := hG61 _ (F_some hF)
          have hwo : WO [(g55, .room), (i2, .cells [.sl 1 (List.map c_i64 a54) g55, .bool a56, .str a57, .str a58]), (i1, .cells [.sl 1 (List.map c_i64 ([] : List Int)) 0, .bool false, .str ([] : List UInt8), .str ([] : List UInt8)])] [(g55, .room), (i2, .cells [.sl 1 (List.map c_i64 a54) g55, .bool a56, .str a57, .str a58]), (i1, .cells [.sl 1 (List.map c_i64 ([] : List Int)) 0, .bool false, .str ([] : List UInt8), .str ([] : List UInt8)])] := (.keep (.keep (.keep .nil)))
          exact ⟨(a54, a56, a57, a58), hF, g55, hg55, (hwo.spec ok).1, WS.mk' (.cons (.refl _) (.cons (.refl _) (.cons (.refl _) .nil))) ok hwo⟩
    ·
      rintro ⟨a47, a49, a50, a51⟩ s' hF ⟨g48, hg48, ok, hws⟩
      refine WP_ws hws ?_
      clear hws s'
      refine C_seq ?_
      refine C_seq ?_
      refine C_reg (mdl []) ?_
      refine S_ldP (j := 1) ok rfl rfl rfl hi2 (p_agg (vs := [.sl 1 (List.map c_i64 a47) g48, .bool a49, .str a50, .str a51]) ty_ag_26 ty_sz_26 rfl rfl) ?_
      refine S_one 74 (v := .agg (c_T_trail_Trail (⟨a47, a49, (⟨a50, a51⟩ : T_api_Name)⟩ : T_trail_Trail))) (.aggC (.cons (.zero _ _ _) (.cons (.refl _) (.cons (.refl _) (.cons (.refl _) (.nil)))))) ?_
      refine S_call (F_trail_Show_ok _ hF fun x78 _ hF => ?_) (.cons (.refl _) (.nil))
      refine S_m (v := .tup _) rfl ?_
      refine S_ext rfl rfl ?_
      refine S_ext rfl rfl ?_
      refine S_a (v := .str _) rfl ?_
      refine S_a (v := .int _ _) rfl ?_
      refine S_nil ?_
      refine C_seq ?_
      refine C_reg (mdl []) ?_
      refine S_m (v := .int _ _) rfl ?_
      refine S_bin rfl rfl (ev_neq ..) ?_
      refine S_m (v := .bool _) rfl ?_
      refine S_two (b := (x78.2 != (0 : Int))) 4 84 (.bool ((x78.2 != (0 : Int)) || (!(x78.1 == p0)))) (fun hb79 => ?_) (fun hb79 => ?_) ?_
      ·
        refine S_off rfl rfl hb79 ?_
        refine S_offD ?_
        refine S_off rfl rfl hb79 ?_
        refine S_offD ?_
        refine S_off rfl rfl hb79 ?_
        refine S_offD ?_
        refine S_pickT (v := .bool _) rfl hb79 rfl ?_
        refine S_nil ?_
        refine .hd (or_t hb79) ?_
        repeat (first | with_reducible exact WS.refl _ | refine WS.add ?_ rfl)
      ·
        refine S_on rfl rfl hb79 ?_
        refine S_in ?_
        refine S_m (v := .str _) rfl ?_
        refine S_nil ?_
        refine S_on rfl rfl hb79 ?_
        refine S_in ?_
        refine S_m (v := .str _) rfl ?_
        refine S_nil ?_
        refine S_on rfl rfl hb79 ?_
        refine S_in ?_
        refine S_bin rfl rfl e_sneq ?_
        refine S_nil ?_
        refine S_pickF (v := .bool _) rfl hb79 rfl ?_
        refine S_nil ?_
        refine .hd (or_f hb79) ?_
        repeat (first | with_reducible exact WS.refl _ | refine WS.add ?_ rfl)
      refine S_nil ?_
      refine C_if (b := ((x78.2 != (0 : Int)) || (!(x78.1 == p0)))) rfl hF (fun hb80 hF => ?_) (fun hb80 hF => ?_)
      ·
        refine C_seq ?_
        refine C_reg (mdl []) ?_
        refine S_bld (v := .agg [.snil, .bool false, .str ([] : List UInt8), .str ([] : List UInt8)]) (b_st ty_zc_26 ty_pl_26 rfl) ?_
        refine S_one 85 (v := .agg (c_T_trail_Trail (⟨([] : List Int), false, (⟨([] : List UInt8), ([] : List UInt8)⟩ : T_api_Name)⟩ : T_trail_Trail))) (.aggC (.cons (.nil _) (.cons (.refl _) (.cons (.refl _) (.cons (.refl _) (.nil)))))) ?_
        refine S_st (j := 2) (cs' := [.sl 1 (List.map c_i64 (⟨([] : List Int), false, (⟨([] : List UInt8), ([] : List UInt8)⟩ : T_api_Name)⟩ : T_trail_Trail).Steps) 0, .bool (⟨([] : List Int), false, (⟨([] : List UInt8), ([] : List UInt8)⟩ : T_api_Name)⟩ : T_trail_Trail).Attr, .str (⟨([] : List Int), false, (⟨([] : List UInt8), ([] : List UInt8)⟩ : T_api_Name)⟩ : T_trail_Trail).Name.URI, .str (⟨([] : List Int), false, (⟨([] : List UInt8), ([] : List UInt8)⟩ : T_api_Name)⟩ : T_trail_Trail).Name.Local]) ok rfl rfl rfl hi1 rfl ty_sz_26 rfl rfl (fun ok => ?_)
        refine S_a (v := .int _ _) rfl ?_
        refine S_nil ?_
        refine WP_ret ?_
        repeat (first | with_reducible refine Exit.sel_ret ?_ | with_reducible refine Exit.blk_ret ?_)
        refine C_ret (fn := Tryd.f11) rfl (.cell rfl (ld_ptr (j := 2) ok rfl hi1 (p_agg (vs := [.sl 1 (List.map c_i64 (⟨([] : List Int), false, (⟨([] : List UInt8), ([] : List UInt8)⟩ : T_api_Name)⟩ : T_trail_Trail).Steps) 0, .bool (⟨([] : List Int), false, (⟨([] : List UInt8), ([] : List UInt8)⟩ : T_api_Name)⟩ : T_trail_Trail).Attr, .str (⟨([] : List Int), false, (⟨([] : List UInt8), ([] : List UInt8)⟩ : T_api_Name)⟩ : T_trail_Trail).Name.URI, .str (⟨([] : List Int), false, (⟨([] : List UInt8), ([] : List UInt8)⟩ : T_api_Name)⟩ : T_trail_Trail).Name.Local]) ty_ag_26 ty_sz_26 rfl rfl)) (.tmp (v := .int .i64 (35 : Int)) rfl .nil)) ?_
        exact ⟨_, _, (.tupC (.cons (.aggC (.cons (.refl _) (.cons (.refl _) (.cons (.refl _) (.cons (.refl _) (.nil)))))) (.cons (.refl _) (.nil)))), ok.wh, _, F_some hF, rfl, rfl⟩
      ·
        refine WP_skip ?_
        refine C_seq ?_
        refine C_reg (mdl []) ?_
        refine S_ldP (j := 1) ok rfl rfl rfl hi2 (p_agg (vs := [.sl 1 (List.map c_i64 a47) g48, .bool a49, .str a50, .str a51]) ty_ag_26 ty_sz_26 rfl rfl) ?_
        refine S_one 86 (v := .agg (c_T_trail_Trail (⟨a47, a49, (⟨a50, a51⟩ : T_api_Name)⟩ : T_trail_Trail))) (.aggC (.cons (.zero _ _ _) (.cons (.refl _) (.cons (.refl _) (.cons (.refl _) (.nil)))))) ?_
        refine S_st (j := 2) (cs' := [.sl 1 (List.map c_i64 (⟨a47, a49, (⟨a50, a51⟩ : T_api_Name)⟩ : T_trail_Trail).Steps) 0, .bool (⟨a47, a49, (⟨a50, a51⟩ : T_api_Name)⟩ : T_trail_Trail).Attr, .str (⟨a47, a49, (⟨a50, a51⟩ : T_api_Name)⟩ : T_trail_Trail).Name.URI, .str (⟨a47, a49, (⟨a50, a51⟩ : T_api_Name)⟩ : T_trail_Trail).Name.Local]) ok rfl rfl rfl hi1 rfl ty_sz_26 rfl rfl (fun ok => ?_)
        refine S_a (v := .int _ _) rfl ?_
        refine S_nil ?_
        refine WP_ret ?_
        repeat (first | with_reducible refine Exit.sel_ret ?_ | with_reducible refine Exit.blk_ret ?_)
        refine C_ret (fn := Tryd.f11) rfl (.cell rfl (ld_ptr (j := 2) ok rfl hi1 (p_agg (vs := [.sl 1 (List.map c_i64 (⟨a47, a49, (⟨a50, a51⟩ : T_api_Name)⟩ : T_trail_Trail).Steps) 0, .bool (⟨a47, a49, (⟨a50, a51⟩ : T_api_Name)⟩ : T_trail_Trail).Attr, .str (⟨a47, a49, (⟨a50, a51⟩ : T_api_Name)⟩ : T_trail_Trail).Name.URI, .str (⟨a47, a49, (⟨a50, a51⟩ : T_api_Name)⟩ : T_trail_Trail).Name.Local]) ty_ag_26 ty_sz_26 rfl rfl)) (.tmp (v := .int .i64 (0 : Int)) rfl .nil)) ?_
        exact ⟨_, _, (.tupC (.cons (.aggC (.cons (.refl _) (.cons (.refl _) (.cons (.refl _) (.cons (.refl _) (.nil)))))) (.cons (.refl _) (.nil)))), ok.wh, _, F_some hF, rfl, rfl⟩
theorem F_trail_Read_ok {β : Type} {f : T_trail_Trail × Int → Option β} {G : β → Prop} {R : D → Heap → Prop} {p0 : List UInt8} (h : Heap) (hF : OptP ((F_trail_Read p0).bind f) G) (hk : ∀ r, F_trail_Read p0 = some r → OptP (f r) G → R (.tup [.agg (c_T_trail_Trail r.1), .int .i64 r.2]) h) : CallsA Tryd.prog 11 [.str p0] h R := by
  obtain ⟨r0, hr, hF⟩ := F_bind hF
  refine (F_trail_Read_w (G := fun r => r = r0) p0 h ⟨r0, hr, rfl⟩).mono ?_
  rintro _ _ ⟨r, rfl, rfl, rfl⟩
  exact hk _ hr hF
theorem F_lecternlaw08_awake_w {G : Bool → Prop} (h : Heap) (hF : OptP (F_lecternlaw08_awake) G) : CallsA Tryd.prog 9 [] h fun d h' => ∃ r, G r ∧ d = .bool r ∧ h' = h := by
  refine CallsA.ret ?_
  refine C_body Tryd.func9 rfl en_9 Tryd.ntmps9 rfl (fun ok => ?_)
  rw [F_lecternlaw08_awake] at hF
  refine C_seq ?_
  refine C_reg (mdl []) ?_
  refine S_a (v := .bool _) rfl ?_
  refine S_nil ?_
  refine C_seq ?_
  refine C_reg (mdl []) ?_
  refine S_lit0 (cs := [.int .i64 (1 : Int), .int .i64 (0 : Int)]) (es := (List.map c_i64 [(1 : Int), (0 : Int)])) rfl ty_el_22 rfl (by kernel_rfl) (by kernel_rfl) ?_
  refine S_bld (v := .agg (c_T_api_Name (⟨([117] : List UInt8), ([98] : List UInt8)⟩ : T_api_Name))) (b_st ty_zc_24 ty_pl_24 rfl) ?_
  refine S_bld (v := .agg (c_T_trail_Trail (⟨[(1 : Int), (0 : Int)], true, (⟨([117] : List UInt8), ([98] : List UInt8)⟩ : T_api_Name)⟩ : T_trail_Trail))) (b_st ty_zc_26 ty_pl_26 rfl) ?_
  refine S_call (F_trail_Show_ok _ hF fun x1 _ hF => ?_) (.cons (.refl _) (.nil))
  refine S_m (v := .tup _) rfl ?_
  refine S_ext rfl rfl ?_
  refine S_ext rfl rfl ?_
  refine S_a (v := .str _) rfl ?_
  refine S_a (v := .int _ _) rfl ?_
  refine S_nil ?_
  refine C_seq ?_
  refine C_reg (mdl [(3, 1)]) ?_
  refine S_call (F_trail_Read_ok _ hF fun x2 _ hF => ?_) (.cons (.refl _) (.nil))
  refine S_m (v := .tup _) rfl ?_
  refine S_ext rfl rfl ?_
  refine S_ext rfl rfl ?_
  refine S_all1 ok rfl ty_zc_26 ?_
  intro i3 hi3 ok
  refine S_st (j := 0) (cs' := [.sl 1 (List.map c_i64 x2.1.Steps) 0, .bool x2.1.Attr, .str x2.1.Name.URI, .str x2.1.Name.Local]) ok rfl rfl rfl hi3 rfl ty_sz_26 rfl rfl (fun ok => ?_)
  refine S_a (v := .int _ _) rfl ?_
  refine S_nil ?_
  refine C_seq ?_
  refine C_reg (mdl [(5, 1)]) ?_
  refine S_call (F_trail_Read_ok _ hF fun x4 _ hF => ?_) (.cons (.refl _) (.nil))
  refine S_m (v := .tup _) rfl ?_
  refine S_ext rfl rfl ?_
  refine S_ext rfl rfl ?_
  refine S_all1 ok rfl ty_zc_26 ?_
  intro i5 hi5 ok
  refine S_st (j := 0) (cs' := [.sl 1 (List.map c_i64 x4.1.Steps) 0, .bool x4.1.Attr, .str x4.1.Name.URI, .str x4.1.Name.Local]) ok rfl rfl rfl hi5 rfl ty_sz_26 rfl rfl (fun ok => ?_)
  refine S_a (v := .int _ _) rfl ?_
  refine S_nil ?_
  refine C_seq ?_
  refine C_reg (mdl []) ?_
  refine S_m (v := .int _ _) rfl ?_
  refine S_bin rfl rfl (ev_eql ..) ?_
  refine S_m (v := .bool _) rfl ?_
  refine S_two (b := (x1.2 == (0 : Int))) 3 27 (.bool ((x1.2 == (0 : Int)) && (x2.2 == (0 : Int)))) (fun hb6 => ?_) (fun hb6 => ?_) ?_
  ·
    refine S_on rfl rfl hb6 ?_
    refine S_in ?_
    refine S_m (v := .int _ _) rfl ?_
    refine S_nil ?_
    refine S_on rfl rfl hb6 ?_
    refine S_in ?_
    refine S_bin rfl rfl (ev_eql ..) ?_
    refine S_nil ?_
    refine S_pickT (v := .bool _) rfl hb6 rfl ?_
    refine S_nil ?_
    refine .hd (and_t hb6) ?_
    repeat (first | with_reducible exact WS.refl _ | refine WS.add ?_ rfl)
  ·
    refine S_off rfl rfl hb6 ?_
    refine S_offD ?_
    refine S_off rfl rfl hb6 ?_
    refine S_offD ?_
    refine S_pickF (v := .bool _) rfl hb6 rfl ?_
    refine S_nil ?_
    refine .hd (and_f hb6) ?_
    repeat (first | with_reducible exact WS.refl _ | refine WS.add ?_ rfl)
  refine S_m (v := .bool _) rfl ?_
  refine S_two (b := ((x1.2 == (0 : Int)) && (x2.2 == (0 : Int)))) 3 31 (.bool (((x1.2 == (0 : Int)) && (x2.2 == (0 : Int))) && (x4.2 == (35 : Int)))) (fun hb7 => ?_) (fun hb7 => ?_) ?_
  ·
    refine S_on rfl rfl hb7 ?_
    refine S_in ?_
    refine S_m (v := .int _ _) rfl ?_
    refine S_nil ?_
    refine S_on rfl rfl hb7 ?_
    refine S_in ?_
    refine S_bin rfl rfl (ev_eql ..) ?_
    refine S_nil ?_
    refine S_pickT (v := .bool _) rfl hb7 rfl ?_
    refine S_nil ?_
    refine .hd (and_t hb7) ?_
    repeat (first | with_reducible exact WS.refl _ | refine WS.add ?_ rfl)
  ·
    refine S_off rfl rfl hb7 ?_
    refine S_offD ?_
    refine S_off rfl rfl hb7 ?_
    refine S_offD ?_
    refine S_pickF (v := .bool _) rfl hb7 rfl ?_
    refine S_nil ?_
    refine .hd (and_f hb7) ?_
    repeat (first | with_reducible exact WS.refl _ | refine WS.add ?_ rfl)
  refine S_m (v := .bool _) rfl ?_
  refine S_two (b := (((x1.2 == (0 : Int)) && (x2.2 == (0 : Int))) && (x4.2 == (35 : Int)))) 3 35 (.bool ((((x1.2 == (0 : Int)) && (x2.2 == (0 : Int))) && (x4.2 == (35 : Int))) && (x1.1 == ([47, 49, 47, 48, 47, 64, 98, 123, 117, 125] : List UInt8)))) (fun hb8 => ?_) (fun hb8 => ?_) ?_
  ·
    refine S_on rfl rfl hb8 ?_
    refine S_in ?_
    refine S_m (v := .str _) rfl ?_
    refine S_nil ?_
    refine S_on rfl rfl hb8 ?_
    refine S_in ?_
    refine S_bin rfl rfl e_seql ?_
    refine S_nil ?_
    refine S_pickT (v := .bool _) rfl hb8 rfl ?_
    refine S_nil ?_
    refine .hd (and_t hb8) ?_
    repeat (first | with_reducible exact WS.refl _ | refine WS.add ?_ rfl)
  ·
    refine S_off rfl rfl hb8 ?_
    refine S_offD ?_
    refine S_off rfl rfl hb8 ?_
    refine S_offD ?_
    refine S_pickF (v := .bool _) rfl hb8 rfl ?_
    refine S_nil ?_
    refine .hd (and_f hb8) ?_
    repeat (first | with_reducible exact WS.refl _ | refine WS.add ?_ rfl)
  refine S_m (v := .bool _) rfl ?_
  refine S_two (b := ((((x1.2 == (0 : Int)) && (x2.2 == (0 : Int))) && (x4.2 == (35 : Int))) && (x1.1 == ([47, 49, 47, 48, 47, 64, 98, 123, 117, 125] : List UInt8)))) 5 41 (.bool (((((x1.2 == (0 : Int)) && (x2.2 == (0 : Int))) && (x4.2 == (35 : Int))) && (x1.1 == ([47, 49, 47, 48, 47, 64, 98, 123, 117, 125] : List UInt8))) && ((x2.1.Steps.length : Int) == (2 : Int)))) (fun hb9 => ?_) (fun hb9 => ?_) ?_
  ·
    refine S_on rfl rfl hb9 ?_
    refine S_in ?_
    refine S_faP rfl ty_fd_26_0 ty_sz_22 ?_
    refine S_nil ?_
    refine S_on rfl rfl hb9 ?_
    refine S_in ?_
    refine S_ldP (j := 1) ok rfl rfl rfl hi3 (p_one (v := .sl 1 (List.map c_i64 x2.1.Steps) 0) ty_ag_22 ty_sz_22 rfl) ?_
    refine S_nil ?_
    refine S_on rfl rfl hb9 ?_
    refine S_in ?_
    refine S_lenL rfl ty_sl_22 ?_
    refine S_nil ?_
    refine S_on rfl rfl hb9 ?_
    refine S_in ?_
    refine S_bin rfl rfl (ev_eql ..) ?_
    refine S_nil ?_
    refine S_pickT (v := .bool _) rfl hb9 rfl ?_
    refine S_nil ?_
    refine .hd (and_t hb9) ?_
    repeat (first | with_reducible exact WS.refl _ | refine WS.add ?_ rfl)
  ·
    refine S_off rfl rfl hb9 ?_
    refine S_offD ?_
    refine S_off rfl rfl hb9 ?_
    refine S_offD ?_
    refine S_off rfl rfl hb9 ?_
    refine S_offD ?_
    refine S_off rfl rfl hb9 ?_
    refine S_offD ?_
    refine S_pickF (v := .bool _) rfl hb9 rfl ?_
    refine S_nil ?_
    refine .hd (and_f hb9) ?_
    repeat (first | with_reducible exact WS.refl _ | refine WS.add ?_ rfl)
  refine S_m (v := .bool _) rfl ?_
  refine S_two (b := (((((x1.2 == (0 : Int)) && (x2.2 == (0 : Int))) && (x4.2 == (35 : Int))) && (x1.1 == ([47, 49, 47, 48, 47, 64, 98, 123, 117, 125] : List UInt8))) && ((x2.1.Steps.length : Int) == (2 : Int)))) 3 45 (.bool ((((((x1.2 == (0 : Int)) && (x2.2 == (0 : Int))) && (x4.2 == (35 : Int))) && (x1.1 == ([47, 49, 47, 48, 47, 64, 98, 123, 117, 125] : List UInt8))) && ((x2.1.Steps.length : Int) == (2 : Int))) && x2.1.Attr)) (fun hb10 => ?_) (fun hb10 => ?_) ?_
  ·
    refine S_on rfl rfl hb10 ?_
    refine S_in ?_
    refine S_faP rfl ty_fd_26_1 ty_sz_4 ?_
    refine S_nil ?_
    refine S_on rfl rfl hb10 ?_
    refine S_in ?_
    refine S_ldP (j := 1) ok rfl rfl rfl hi3 (p_one (v := .bool x2.1.Attr) ty_ag_4 ty_sz_4 rfl) ?_
    refine S_nil ?_
    refine S_pickT (v := .bool _) rfl hb10 rfl ?_
    refine S_nil ?_
    refine .hd (and_t hb10) ?_
    repeat (first | with_reducible exact WS.refl _ | refine WS.add ?_ rfl)
  ·
    refine S_off rfl rfl hb10 ?_
    refine S_offD ?_
    refine S_off rfl rfl hb10 ?_
    refine S_offD ?_
    refine S_pickF (v := .bool _) rfl hb10 rfl ?_
    refine S_nil ?_
    refine .hd (and_f hb10) ?_
    repeat (first | with_reducible exact WS.refl _ | refine WS.add ?_ rfl)
  refine S_m (v := .bool _) rfl ?_
  refine S_two (b := ((((((x1.2 == (0 : Int)) && (x2.2 == (0 : Int))) && (x4.2 == (35 : Int))) && (x1.1 == ([47, 49, 47, 48, 47, 64, 98, 123, 117, 125] : List UInt8))) && ((x2.1.Steps.length : Int) == (2 : Int))) && x2.1.Attr)) 5 51 (.bool (((((((x1.2 == (0 : Int)) && (x2.2 == (0 : Int))) && (x4.2 == (35 : Int))) && (x1.1 == ([47, 49, 47, 48, 47, 64, 98, 123, 117, 125] : List UInt8))) && ((x2.1.Steps.length : Int) == (2 : Int))) && x2.1.Attr) && (x2.1.Name.URI == ([117] : List UInt8)))) (fun hb11 => ?_) (fun hb11 => ?_) ?_
  ·
    refine S_on rfl rfl hb11 ?_
    refine S_in ?_
    refine S_faP rfl ty_fd_26_2 ty_sz_24 ?_
    refine S_nil ?_
    refine S_on rfl rfl hb11 ?_
    refine S_in ?_
    refine S_faP rfl ty_fd_24_0 ty_sz_9 ?_
    refine S_nil ?_
    refine S_on rfl rfl hb11 ?_
    refine S_in ?_
    refine S_ldP (j := 1) ok rfl rfl rfl hi3 (p_one (v := .str x2.1.Name.URI) ty_ag_9 ty_sz_9 rfl) ?_
    refine S_nil ?_
    refine S_on rfl rfl hb11 ?_
    refine S_in ?_
    refine S_bin rfl rfl e_seql ?_
    refine S_nil ?_
    refine S_pickT (v := .bool _) rfl hb11 rfl ?_
    refine S_nil ?_
    refine .hd (and_t hb11) ?_
    repeat (first | with_reducible exact WS.refl _ | refine WS.add ?_ rfl)
  ·
    refine S_off rfl rfl hb11 ?_
    refine S_offD ?_
    refine S_off rfl rfl hb11 ?_
    refine S_offD ?_
    refine S_off rfl rfl hb11 ?_
    refine S_offD ?_
    refine S_off rfl rfl hb11 ?_
    refine S_offD ?_
    refine S_pickF (v := .bool _) rfl hb11 rfl ?_
    refine S_nil ?_
    refine .hd (and_f hb11) ?_
    repeat (first | with_reducible exact WS.refl _ | refine WS.add ?_ rfl)
  refine S_a (v := .bool _) rfl ?_
  refine S_nil ?_
  refine WP_ret ?_
  repeat (first | with_reducible refine Exit.sel_ret ?_ | with_reducible refine Exit.blk_ret ?_)
  refine C_ret (fn := Tryd.f9) rfl (.tmp (v := .bool (((((((x1.2 == (0 : Int)) && (x2.2 == (0 : Int))) && (x4.2 == (35 : Int))) && (x1.1 == ([47, 49, 47, 48, 47, 64, 98, 123, 117, 125] : List UInt8))) && ((x2.1.Steps.length : Int) == (2 : Int))) && x2.1.Attr) && (x2.1.Name.URI == ([117] : List UInt8)))) rfl .nil) ?_
  exact ⟨_, _, (.refl _), ok.wh, _, F_some hF, rfl, rfl⟩
theorem F_lecternlaw08_awake_ok {β : Type} {f : Bool → Option β} {G : β → Prop} {R : D → Heap → Prop} (h : Heap) (hF : OptP ((F_lecternlaw08_awake).bind f) G) (hk : ∀ r, F_lecternlaw08_awake = some r → OptP (f r) G → R (.bool r) h) : CallsA Tryd.prog 9 [] h R := by
  obtain ⟨r0, hr, hF⟩ := F_bind hF
  refine (F_lecternlaw08_awake_w (G := fun r => r = r0)  h ⟨r0, hr, rfl⟩).mono ?_
  rintro _ _ ⟨r, rfl, rfl, rfl⟩
  exact hk _ hr hF
theorem F_lecternlaw08_doc_w (p0 : T_trail_Trail) {G : T_trail_Trail → Prop} (h : Heap) (hF : OptP (F_lecternlaw08_doc p0) G) : CallsA Tryd.prog 13 [.agg (c_T_trail_Trail p0)] h fun d h' => ∃ r, G r ∧ d = .agg (c_T_trail_Trail r) ∧ h' = h := by
  refine CallsA.ret ?_
  refine C_body Tryd.func13 rfl en_13 Tryd.ntmps13 rfl (fun ok => ?_)
  rw [F_lecternlaw08_doc] at hF
  refine C_seq ?_
  refine C_reg (mdl [(2, 1)]) ?_
  refine S_box0 rfl rfl rfl rfl ?_
  refine S_all1 ok rfl ty_zc_34 ?_
  intro i1 hi1 ok
  refine S_nil ?_
  refine C_seq ?_
  refine C_reg (mdl []) ?_
  refine S_faQ rfl ty_fd_26_0 ty_sz_22 rfl ?_
  refine S_ldQ rfl (p_one ty_ag_22 ty_sz_22 rfl) ?_
  refine S_faQ rfl ty_fd_26_1 ty_sz_4 rfl ?_
  refine S_ldQ rfl (p_one ty_ag_4 ty_sz_4 rfl) ?_
  refine S_faQ rfl ty_fd_26_2 ty_sz_24 rfl ?_
  refine S_ldQ rfl (p_agg (vs := c_T_api_Name p0.Name) ty_ag_24 ty_sz_24 rfl rfl) ?_
  refine S_bld (v := .agg (c_T_trail_Trail p0)) (b_st ty_zc_34 ty_pl_34 rfl) ?_
  refine S_st (j := 0) (cs' := [.sl 1 (List.map c_i64 p0.Steps) 0, .bool p0.Attr, .str p0.Name.URI, .str p0.Name.Local]) ok rfl rfl rfl hi1 rfl ty_sz_34 rfl rfl (fun ok => ?_)
  refine S_nil ?_
  refine WP_ret ?_
  repeat (first | with_reducible refine Exit.sel_ret ?_ | with_reducible refine Exit.blk_ret ?_)
  refine C_ret (fn := Tryd.f13) rfl (.cell rfl (ld_ptr (j := 0) ok rfl hi1 (p_agg (vs := [.sl 1 (List.map c_i64 p0.Steps) 0, .bool p0.Attr, .str p0.Name.URI, .str p0.Name.Local]) ty_ag_34 ty_sz_34 rfl rfl)) .nil) ?_
  exact ⟨_, _, (.aggC (.cons (.refl _) (.cons (.refl _) (.cons (.refl _) (.cons (.refl _) (.nil)))))), ok.wh, _, F_some hF, rfl, rfl⟩
theorem F_lecternlaw08_doc_ok {β : Type} {f : T_trail_Trail → Option β} {G : β → Prop} {R : D → Heap → Prop} {p0 : T_trail_Trail} (h : Heap) (hF : OptP ((F_lecternlaw08_doc p0).bind f) G) (hk : ∀ r, F_lecternlaw08_doc p0 = some r → OptP (f r) G → R (.agg (c_T_trail_Trail r)) h) : CallsA Tryd.prog 13 [.agg (c_T_trail_Trail p0)] h R := by
  obtain ⟨r0, hr, hF⟩ := F_bind hF
  refine (F_lecternlaw08_doc_w (G := fun r => r = r0) p0 h ⟨r0, hr, rfl⟩).mono ?_
  rintro _ _ ⟨r, rfl, rfl, rfl⟩
  exact hk _ hr hF
theorem F_lecternref01_Read_w (p0 : List UInt8) (p1 : Int) {G : Int × Int → Prop} (h : Heap) (hF : OptP (F_lecternref01_Read p0 p1) G) : CallsA Tryd.prog 53 [.sl 1 (List.map c_u8 p0) 0, .int .i64 p1] h fun d h' => ∃ r, G r ∧ d = .tup [.int .i64 r.1, .int .i64 r.2] ∧ h' = h := by
  refine CallsA.ret ?_
  refine C_body Tryd.func53 rfl en_53 Tryd.ntmps53 rfl (fun ok => ?_)
  rw [F_lecternref01_Read] at hF
  refine C_seq ?_
  refine C_reg (mdl []) ?_
  refine S_a (v := .int _ _) rfl ?_
  refine S_a (v := .int _ _) rfl ?_
  refine S_nil ?_
  refine C_seq ?_
  refine C_reg (mdl []) ?_
  refine S_m (v := .sl _ _ _) rfl ?_
  refine S_m (v := .int _ _) rfl ?_
  refine S_ix rfl rfl ty_sl_72 ty_sz_5 hF (fun x1 _ hF => ?_)
  refine S_ldQ rfl (p_one ty_ag_5 ty_sz_5 rfl) ?_
  refine S_conv rfl (e_ci ty_ki_3 ty_un_5) ?_
  refine S_a (v := .int _ _) rfl ?_
  refine S_nil ?_
  refine C_seq ?_
  refine C_reg (mdl []) ?_
  refine S_m (v := .int _ _) rfl ?_
  refine S_a (v := .int _ _) rfl ?_
  refine S_a (v := .int _ _) rfl ?_
  refine S_a (v := .int _ _) rfl ?_
  refine S_nil ?_
  refine C_join hF (fun (v : Int × Int × Int) s' => match v with | (a9, a10, a11) => OK h [] ∧ WS s' ⟨mkSl 95 [(0, .sl 1 (List.map c_u8 p0) 0), (1, .int .i64 p1), (7, .int .i64 a9), (8, .int .i64 a10), (9, .int .i64 a11)], Hp h []⟩) (fun J12 hF => ?_) ?_
  ·
    refine WP_block ?_
    refine C_seq ?_
    refine C_reg (mdl []) ?_
    refine S_m (v := .int _ _) rfl ?_
    refine S_bin rfl rfl (ev_lss ..) ?_
    refine S_a (v := .bool _) rfl ?_
    refine S_nil ?_
    refine C_if (b := (decide ((IntKind.wrap .i64 (x1.toNat : Int)) < (128 : Int)))) rfl hF (fun hb13 hF => ?_) (fun hb13 hF => ?_)
    ·
      refine C_seq ?_
      refine C_reg (mdl []) ?_
      refine S_m (v := .int _ _) rfl ?_
      refine S_a (v := .int _ _) rfl ?_
      refine S_a (v := .int _ _) rfl ?_
      refine S_nil ?_
      refine WP_ret ?_
      repeat (first | with_reducible refine Exit.sel_ret ?_ | with_reducible refine Exit.blk_ret ?_)
      refine C_ret (fn := Tryd.f53) rfl (.tmp (v := .int .i64 (IntKind.wrap .i64 (x1.toNat : Int))) rfl (.tmp (v := .int .i64 (1 : Int)) rfl .nil)) ?_
      exact ⟨_, _, (.tupC (.cons (.refl _) (.cons (.refl _) (.nil)))), ok.wh, _, F_some hF, rfl, rfl⟩
    ·
      refine C_seq ?_
      refine C_reg (mdl []) ?_
      refine S_m (v := .int _ _) rfl ?_
      refine S_bin rfl rfl (ev_geq ..) ?_
      refine S_m (v := .bool _) rfl ?_
      refine S_two (b := (decide ((192 : Int) ≤ (IntKind.wrap .i64 (x1.toNat : Int))))) 3 28 (.bool ((decide ((192 : Int) ≤ (IntKind.wrap .i64 (x1.toNat : Int)))) && (decide ((IntKind.wrap .i64 (x1.toNat : Int)) < (224 : Int))))) (fun hb14 => ?_) (fun hb14 => ?_) ?_
      ·
        refine S_on rfl rfl hb14 ?_
        refine S_in ?_
        refine S_m (v := .int _ _) rfl ?_
        refine S_nil ?_
        refine S_on rfl rfl hb14 ?_
        refine S_in ?_
        refine S_bin rfl rfl (ev_lss ..) ?_
        refine S_nil ?_
        refine S_pickT (v := .bool _) rfl hb14 rfl ?_
        refine S_nil ?_
        refine .hd (and_t hb14) ?_
        repeat (first | with_reducible exact WS.refl _ | refine WS.add ?_ rfl)
      ·
        refine S_off rfl rfl hb14 ?_
        refine S_offD ?_
        refine S_off rfl rfl hb14 ?_
        refine S_offD ?_
        refine S_pickF (v := .bool _) rfl hb14 rfl ?_
        refine S_nil ?_
        refine .hd (and_f hb14) ?_
        repeat (first | with_reducible exact WS.refl _ | refine WS.add ?_ rfl)
      refine S_a (v := .bool _) rfl ?_
      refine S_nil ?_
      refine C_if (b := ((decide ((192 : Int) ≤ (IntKind.wrap .i64 (x1.toNat : Int)))) && (decide ((IntKind.wrap .i64 (x1.toNat : Int)) < (224 : Int))))) rfl hF (fun hb15 hF => ?_) (fun hb15 hF => ?_)
      ·
        refine C_reg (mdl []) ?_
        refine S_m (v := .int _ _) rfl ?_
        refine S_bin rfl rfl (ev_sub ..) ?_
        refine S_a (v := .int _ _) rfl ?_
        refine S_a (v := .int _ _) rfl ?_
        refine S_a (v := .int _ _) rfl ?_
        refine S_nil ?_
        have hwo : WO [] [] := .nil
        exact ⟨((2 : Int), (IntKind.wrap .i64 ((IntKind.wrap .i64 (x1.toNat : Int)) - (192 : Int))), (128 : Int)), hF, (hwo.spec ok).1, WS.mk' (.cons (.refl _) (.cons (.refl _) (.cons (.refl _) (.cons (.refl _) (.cons (.refl _) .nil))))) ok hwo⟩
      ·
        refine C_seq ?_
        refine C_reg (mdl []) ?_
        refine S_m (v := .int _ _) rfl ?_
        refine S_bin rfl rfl (ev_geq ..) ?_
        refine S_m (v := .bool _) rfl ?_
        refine S_two (b := (decide ((224 : Int) ≤ (IntKind.wrap .i64 (x1.toNat : Int))))) 3 37 (.bool ((decide ((224 : Int) ≤ (IntKind.wrap .i64 (x1.toNat : Int)))) && (decide ((IntKind.wrap .i64 (x1.toNat : Int)) < (240 : Int))))) (fun hb16 => ?_) (fun hb16 => ?_) ?_
        ·
          refine S_on rfl rfl hb16 ?_
          refine S_in ?_
          refine S_m (v := .int _ _) rfl ?_
          refine S_nil ?_
          refine S_on rfl rfl hb16 ?_
          refine S_in ?_
          refine S_bin rfl rfl (ev_lss ..) ?_
          refine S_nil ?_
          refine S_pickT (v := .bool _) rfl hb16 rfl ?_
          refine S_nil ?_
          refine .hd (and_t hb16) ?_
          repeat (first | with_reducible exact WS.refl _ | refine WS.add ?_ rfl)
        ·
          refine S_off rfl rfl hb16 ?_
          refine S_offD ?_
          refine S_off rfl rfl hb16 ?_
          refine S_offD ?_
          refine S_pickF (v := .bool _) rfl hb16 rfl ?_
          refine S_nil ?_
          refine .hd (and_f hb16) ?_
          repeat (first | with_reducible exact WS.refl _ | refine WS.add ?_ rfl)
        refine S_a (v := .bool _) rfl ?_
        refine S_nil ?_
        refine C_if (b := ((decide ((224 : Int) ≤ (IntKind.wrap .i64 (x1.toNat : Int)))) && (decide ((IntKind.wrap .i64 (x1.toNat : Int)) < (240 : Int))))) rfl hF (fun hb17 hF => ?_) (fun hb17 hF => ?_)
        ·
          refine C_reg (mdl []) ?_
          refine S_m (v := .int _ _) rfl ?_
          refine S_bin rfl rfl (ev_sub ..) ?_
          refine S_a (v := .int _ _) rfl ?_
          refine S_a (v := .int _ _) rfl ?_
          refine S_a (v := .int _ _) rfl ?_
          refine S_nil ?_
          have hwo : WO [] [] := .nil
          exact ⟨((3 : Int), (IntKind.wrap .i64 ((IntKind.wrap .i64 (x1.toNat : Int)) - (224 : Int))), (2048 : Int)), hF, (hwo.spec ok).1, WS.mk' (.cons (.refl _) (.cons (.refl _) (.cons (.refl _) (.cons (.refl _) (.cons (.refl _) .nil))))) ok hwo⟩
        ·
          refine C_seq ?_
          refine C_reg (mdl []) ?_
          refine S_m (v := .int _ _) rfl ?_
          refine S_bin rfl rfl (ev_geq ..) ?_
          refine S_m (v := .bool _) rfl ?_
          refine S_two (b := (decide ((240 : Int) ≤ (IntKind.wrap .i64 (x1.toNat : Int))))) 3 46 (.bool ((decide ((240 : Int) ≤ (IntKind.wrap .i64 (x1.toNat : Int)))) && (decide ((IntKind.wrap .i64 (x1.toNat : Int)) < (248 : Int))))) (fun hb18 => ?_) (fun hb18 => ?_) ?_
          ·
            refine S_on rfl rfl hb18 ?_
            refine S_in ?_
            refine S_m (v := .int _ _) rfl ?_
            refine S_nil ?_
            refine S_on rfl rfl hb18 ?_
            refine S_in ?_
            refine S_bin rfl rfl (ev_lss ..) ?_
            refine S_nil ?_
            refine S_pickT (v := .bool _) rfl hb18 rfl ?_
            refine S_nil ?_
            refine .hd (and_t hb18) ?_
            repeat (first | with_reducible exact WS.refl _ | refine WS.add ?_ rfl)
          ·
            refine S_off rfl rfl hb18 ?_
            refine S_offD ?_
            refine S_off rfl rfl hb18 ?_
            refine S_offD ?_
            refine S_pickF (v := .bool _) rfl hb18 rfl ?_
            refine S_nil ?_
            refine .hd (and_f hb18) ?_
            repeat (first | with_reducible exact WS.refl _ | refine WS.add ?_ rfl)
          refine S_a (v := .bool _) rfl ?_
          refine S_nil ?_
          refine C_if (b := ((decide ((240 : Int) ≤ (IntKind.wrap .i64 (x1.toNat : Int)))) && (decide ((IntKind.wrap .i64 (x1.toNat : Int)) < (248 : Int))))) rfl hF (fun hb19 hF => ?_) (fun hb19 hF => ?_)
          ·
            refine C_reg (mdl []) ?_
            refine S_m (v := .int _ _) rfl ?_
            refine S_bin rfl rfl (ev_sub ..) ?_
            refine S_a (v := .int _ _) rfl ?_
            refine S_a (v := .int _ _) rfl ?_
            refine S_a (v := .int _ _) rfl ?_
            refine S_nil ?_
            have hwo : WO [] [] := .nil
            exact ⟨((4 : Int), (IntKind.wrap .i64 ((IntKind.wrap .i64 (x1.toNat : Int)) - (240 : Int))), (65536 : Int)), hF, (hwo.spec ok).1, WS.mk' (.cons (.refl _) (.cons (.refl _) (.cons (.refl _) (.cons (.refl _) (.cons (.refl _) .nil))))) ok hwo⟩
          ·
            refine C_seq ?_
            refine C_reg (mdl []) ?_
            refine S_a (v := .int _ _) rfl ?_
            refine S_a (v := .int _ _) rfl ?_
            refine S_nil ?_
            refine WP_ret ?_
            repeat (first | with_reducible refine Exit.sel_ret ?_ | with_reducible refine Exit.blk_ret ?_)
            refine C_ret (fn := Tryd.f53) rfl (.tmp (v := .int .i64 (0 : Int)) rfl (.tmp (v := .int .i64 (0 : Int)) rfl .nil)) ?_
            exact ⟨_, _, (.tupC (.cons (.refl _) (.cons (.refl _) (.nil)))), ok.wh, _, F_some hF, rfl, rfl⟩
  ·
    rintro ⟨a9, a10, a11⟩ s' hF ⟨ok, hws⟩
    refine WP_ws hws ?_
    clear hws s'
    refine C_seq ?_
    refine C_seq ?_
    refine C_reg (mdl []) ?_
    refine S_m (v := .int _ _) rfl ?_
    refine S_m (v := .int _ _) rfl ?_
    refine S_bin rfl rfl (ev_add ..) ?_
    refine S_m (v := .sl _ _ _) rfl ?_
    refine S_lenL rfl ty_sl_72 ?_
    refine S_bin rfl rfl (ev_gtr ..) ?_
    refine S_nil ?_
    refine C_if (b := (decide ((p0.length : Int) < (IntKind.wrap .i64 (p1 + a9))))) rfl hF (fun hb20 hF => ?_) (fun hb20 hF => ?_)
    ·
      refine C_seq ?_
      refine C_reg (mdl []) ?_
      refine S_a (v := .int _ _) rfl ?_
      refine S_a (v := .int _ _) rfl ?_
      refine S_nil ?_
      refine WP_ret ?_
      repeat (first | with_reducible refine Exit.sel_ret ?_ | with_reducible refine Exit.blk_ret ?_)
      refine C_ret (fn := Tryd.f53) rfl (.tmp (v := .int .i64 (0 : Int)) rfl (.tmp (v := .int .i64 (0 : Int)) rfl .nil)) ?_
      exact ⟨_, _, (.tupC (.cons (.refl _) (.cons (.refl _) (.nil)))), ok.wh, _, F_some hF, rfl, rfl⟩
    ·
      refine WP_skip ?_
      refine C_join hF (fun (a27 : Int) s' => OK h [] ∧ WS s' ⟨mkSl 95 [(7, .int .i64 a9), (8, .int .i64 a27), (9, .int .i64 a11)], Hp h []⟩) (fun J28 hF => ?_) ?_
      ·
        refine C_seq ?_
        refine C_reg (mdl []) ?_
        refine S_a (v := .int _ _) rfl ?_
        refine S_nil ?_
        refine WP_block ?_
        refine C_loop (σ := Int × Int) hF (fun (v : Int × Int) s' => match v with | (a29, a30) => OK h [] ∧ WS s' ⟨mkSl 95 [(0, .sl 1 (List.map c_u8 p0) 0), (1, .int .i64 p1), (7, .int .i64 a9), (8, .int .i64 a29), (9, .int .i64 a11), (10, .int .i64 a30)], Hp h []⟩) ?_ ?_
        ·
          have hwo : WO [] [] := .nil
          exact ⟨(hwo.spec ok).1, WS.mk' (.cons (.refl _) (.cons (.refl _) (.cons (.refl _) (.cons (.refl _) (.cons (.refl _) (.cons (.refl _) .nil)))))) ok hwo⟩
        ·
          rintro G31 hG32 rec33 ⟨a29, a30⟩ s' ih34 hF ⟨ok, hws⟩
          refine WP_ws hws ?_
          clear hws s'
          rw [F_lecternref01_Read_l0] at hF
          refine C_seq ?_
          refine C_seq ?_
          refine C_reg (mdl []) ?_
          refine S_m (v := .int _ _) rfl ?_
          refine S_m (v := .int _ _) rfl ?_
          refine S_bin rfl rfl (ev_lss ..) ?_
          refine S_nil ?_
          refine C_if (b := (decide (a30 < a9))) rfl hF (fun hb35 hF => ?_) (fun hb35 hF => ?_)
          ·
            refine WP_skip ?_
            refine C_seq ?_
            refine WP_block ?_
            refine C_seq ?_
            refine C_reg (mdl []) ?_
            refine S_m (v := .sl _ _ _) rfl ?_
            refine S_m (v := .int _ _) rfl ?_
            refine S_m (v := .int _ _) rfl ?_
            refine S_bin rfl rfl (ev_add ..) ?_
            refine S_ix rfl rfl ty_sl_72 ty_sz_5 hF (fun x36 _ hF => ?_)
            refine S_ldQ rfl (p_one ty_ag_5 ty_sz_5 rfl) ?_
            refine S_conv rfl (e_ci ty_ki_3 ty_un_5) ?_
            refine S_a (v := .int _ _) rfl ?_
            refine S_nil ?_
            refine C_seq ?_
            refine C_seq ?_
            refine C_reg (mdl []) ?_
            refine S_m (v := .int _ _) rfl ?_
            refine S_bin rfl rfl (ev_lss ..) ?_
            refine S_m (v := .bool _) rfl ?_
            refine S_two (b := (decide ((IntKind.wrap .i64 (x36.toNat : Int)) < (128 : Int)))) 3 72 (.bool ((decide ((IntKind.wrap .i64 (x36.toNat : Int)) < (128 : Int))) || (decide ((191 : Int) < (IntKind.wrap .i64 (x36.toNat : Int)))))) (fun hb37 => ?_) (fun hb37 => ?_) ?_
            ·
              refine S_off rfl rfl hb37 ?_
              refine S_offD ?_
              refine S_off rfl rfl hb37 ?_
              refine S_offD ?_
              refine S_pickT (v := .bool _) rfl hb37 rfl ?_
              refine S_nil ?_
              refine .hd (or_t hb37) ?_
              repeat (first | with_reducible exact WS.refl _ | refine WS.add ?_ rfl)
            ·
              refine S_on rfl rfl hb37 ?_
              refine S_in ?_
              refine S_m (v := .int _ _) rfl ?_
              refine S_nil ?_
              refine S_on rfl rfl hb37 ?_
              refine S_in ?_
              refine S_bin rfl rfl (ev_gtr ..) ?_
              refine S_nil ?_
              refine S_pickF (v := .bool _) rfl hb37 rfl ?_
              refine S_nil ?_
              refine .hd (or_f hb37) ?_
              repeat (first | with_reducible exact WS.refl _ | refine WS.add ?_ rfl)
            refine S_nil ?_
            refine C_if (b := ((decide ((IntKind.wrap .i64 (x36.toNat : Int)) < (128 : Int))) || (decide ((191 : Int) < (IntKind.wrap .i64 (x36.toNat : Int)))))) rfl hF (fun hb38 hF => ?_) (fun hb38 hF => ?_)
            ·
              refine C_seq ?_
              refine C_reg (mdl []) ?_
              refine S_a (v := .int _ _) rfl ?_
              refine S_a (v := .int _ _) rfl ?_
              refine S_nil ?_
              refine WP_ret ?_
              replace hF := hG32 _ (F_some hF)
              repeat (first | with_reducible refine Exit.sel_ret ?_ | with_reducible refine Exit.blk_ret ?_)
              refine C_ret (fn := Tryd.f53) rfl (.tmp (v := .int .i64 (0 : Int)) rfl (.tmp (v := .int .i64 (0 : Int)) rfl .nil)) ?_
              exact ⟨_, _, (.tupC (.cons (.refl _) (.cons (.refl _) (.nil)))), ok.wh, _, F_some hF, rfl, rfl⟩
            ·
              refine WP_skip ?_
              refine C_reg (mdl []) ?_
              refine S_m (v := .int _ _) rfl ?_
              refine S_bin rfl rfl (ev_mul ..) ?_
              refine S_m (v := .int _ _) rfl ?_
              refine S_bin rfl rfl (ev_add ..) ?_
              refine S_bin rfl rfl (ev_sub ..) ?_
              refine S_a (v := .int _ _) rfl ?_
              refine S_nil ?_
              refine C_reg (mdl []) ?_
              refine S_m (v := .int _ _) rfl ?_
              refine S_bin rfl rfl (ev_add ..) ?_
              refine S_a (v := .int _ _) rfl ?_
              refine S_nil ?_
              refine ih34 ((IntKind.wrap .i64 ((IntKind.wrap .i64 ((IntKind.wrap .i64 ((64 : Int) * a29)) + (IntKind.wrap .i64 (x36.toNat : Int)))) - (128 : Int))), (IntKind.wrap .i64 (a30 + (1 : Int)))) _ hF ?_
              have hwo : WO [] [] := .nil
              exact ⟨(hwo.spec ok).1, WS.mk' (.cons (.refl _) (.cons (.refl _) (.cons (.refl _) (.cons (.refl _) (.cons (.refl _) (.cons (.refl _) .nil)))))) ok hwo⟩
          ·
            refine WP_exit ?_
            simp only [Exit.sel, Exit.blk, if_true, if_false, reduceIte, Nat.reduceEqDiff, Nat.succ_ne_zero, Nat.zero_ne_one, Nat.one_ne_zero]
            replace hF := hG32 _ (F_some hF)
            have hwo : WO [] [] := .nil
            exact ⟨a29, hF, (hwo.spec ok).1, WS.mk' (.cons (.refl _) (.cons (.refl _) (.cons (.refl _) .nil))) ok hwo⟩
      ·
        rintro a27 s' hF ⟨ok, hws⟩
        refine WP_ws hws ?_
        clear hws s'
        refine C_seq ?_
        refine C_seq ?_
        refine C_reg (mdl []) ?_
        refine S_m (v := .int _ _) rfl ?_
        refine S_m (v := .int _ _) rfl ?_
        refine S_bin rfl rfl (ev_lss ..) ?_
        refine S_m (v := .bool _) rfl ?_
        refine S_two (b := (decide (a27 < a11))) 3 84 (.bool ((decide (a27 < a11)) || (decide ((1114111 : Int) < a27)))) (fun hb39 => ?_) (fun hb39 => ?_) ?_
        ·
          refine S_off rfl rfl hb39 ?_
          refine S_offD ?_
          refine S_off rfl rfl hb39 ?_
          refine S_offD ?_
          refine S_pickT (v := .bool _) rfl hb39 rfl ?_
          refine S_nil ?_
          refine .hd (or_t hb39) ?_
          repeat (first | with_reducible exact WS.refl _ | refine WS.add ?_ rfl)
        ·
          refine S_on rfl rfl hb39 ?_
          refine S_in ?_
          refine S_m (v := .int _ _) rfl ?_
          refine S_nil ?_
          refine S_on rfl rfl hb39 ?_
          refine S_in ?_
          refine S_bin rfl rfl (ev_gtr ..) ?_
          refine S_nil ?_
          refine S_pickF (v := .bool _) rfl hb39 rfl ?_
          refine S_nil ?_
          refine .hd (or_f hb39) ?_
          repeat (first | with_reducible exact WS.refl _ | refine WS.add ?_ rfl)
        refine S_m (v := .bool _) rfl ?_
        refine S_two (b := ((decide (a27 < a11)) || (decide ((1114111 : Int) < a27)))) 7 92 (.bool (((decide (a27 < a11)) || (decide ((1114111 : Int) < a27))) || ((decide ((55296 : Int) ≤ a27)) && (decide (a27 ≤ (57343 : Int)))))) (fun hb40 => ?_) (fun hb40 => ?_) ?_
        ·
          refine S_off rfl rfl hb40 ?_
          refine S_offD ?_
          refine S_off rfl rfl hb40 ?_
          refine S_offD ?_
          refine S_off rfl rfl hb40 ?_
          refine S_offD ?_
          refine S_off2 rfl rfl ?_
          refine S_offD ?_
          refine S_off2 rfl rfl ?_
          refine S_offD ?_
          refine S_off rfl rfl hb40 ?_
          refine S_offD ?_
          refine S_pickT (v := .bool _) rfl hb40 rfl ?_
          refine S_nil ?_
          refine .hd (or_t hb40) ?_
          repeat (first | with_reducible exact WS.refl _ | refine WS.add ?_ rfl)
        ·
          refine S_on rfl rfl hb40 ?_
          refine S_in ?_
          refine S_m (v := .int _ _) rfl ?_
          refine S_nil ?_
          refine S_on rfl rfl hb40 ?_
          refine S_in ?_
          refine S_bin rfl rfl (ev_geq ..) ?_
          refine S_nil ?_
          refine S_on rfl rfl hb40 ?_
          refine S_in ?_
          refine S_m (v := .bool _) rfl ?_
          refine S_nil ?_
          refine S_two (b := (decide ((55296 : Int) ≤ a27))) 3 91 (.bool ((decide ((55296 : Int) ≤ a27)) && (decide (a27 ≤ (57343 : Int))))) (fun hb42 => ?_) (fun hb42 => ?_) ?_
          ·
            refine S_on rfl rfl hb42 ?_
            refine S_in ?_
            refine S_m (v := .int _ _) rfl ?_
            refine S_nil ?_
            refine S_on rfl rfl hb42 ?_
            refine S_in ?_
            refine S_bin rfl rfl (ev_leq ..) ?_
            refine S_nil ?_
            refine S_on rfl rfl hb40 ?_
            refine S_in ?_
            refine S_pickT (v := .bool _) rfl hb42 rfl ?_
            refine S_nil ?_
            refine S_nil ?_
            refine .hd (and_t hb42) ?_
            repeat (first | with_reducible exact WS.refl _ | refine WS.add ?_ rfl)
          ·
            refine S_off rfl rfl hb42 ?_
            refine S_offD ?_
            refine S_off rfl rfl hb42 ?_
            refine S_offD ?_
            refine S_on rfl rfl hb40 ?_
            refine S_in ?_
            refine S_pickF (v := .bool _) rfl hb42 rfl ?_
            refine S_nil ?_
            refine S_nil ?_
            refine .hd (and_f hb42) ?_
            repeat (first | with_reducible exact WS.refl _ | refine WS.add ?_ rfl)
          refine S_pickF (v := .bool _) rfl hb40 rfl ?_
          refine S_nil ?_
          refine .hd (or_f hb40) ?_
          repeat (first | with_reducible exact WS.refl _ | refine WS.add ?_ rfl)
        refine S_nil ?_
        refine C_if (b := (((decide (a27 < a11)) || (decide ((1114111 : Int) < a27))) || ((decide ((55296 : Int) ≤ a27)) && (decide (a27 ≤ (57343 : Int)))))) rfl hF (fun hb43 hF => ?_) (fun hb43 hF => ?_)
        ·
          refine C_seq ?_
          refine C_reg (mdl []) ?_
          refine S_a (v := .int _ _) rfl ?_
          refine S_a (v := .int _ _) rfl ?_
          refine S_nil ?_
          refine WP_ret ?_
          repeat (first | with_reducible refine Exit.sel_ret ?_ | with_reducible refine Exit.blk_ret ?_)
          refine C_ret (fn := Tryd.f53) rfl (.tmp (v := .int .i64 (0 : Int)) rfl (.tmp (v := .int .i64 (0 : Int)) rfl .nil)) ?_
          exact ⟨_, _, (.tupC (.cons (.refl _) (.cons (.refl _) (.nil)))), ok.wh, _, F_some hF, rfl, rfl⟩
        ·
          refine WP_skip ?_
          refine C_seq ?_
          refine C_reg (mdl []) ?_
          refine S_m (v := .int _ _) rfl ?_
          refine S_m (v := .int _ _) rfl ?_
          refine S_a (v := .int _ _) rfl ?_
          refine S_a (v := .int _ _) rfl ?_
          refine S_nil ?_
          refine WP_ret ?_
          repeat (first | with_reducible refine Exit.sel_ret ?_ | with_reducible refine Exit.blk_ret ?_)
          refine C_ret (fn := Tryd.f53) rfl (.tmp (v := .int .i64 a27) rfl (.tmp (v := .int .i64 a9) rfl .nil)) ?_
          exact ⟨_, _, (.tupC (.cons (.refl _) (.cons (.refl _) (.nil)))), ok.wh, _, F_some hF, rfl, rfl⟩
theorem F_lecternref01_Read_ok {β : Type} {f : Int × Int → Option β} {G : β → Prop} {R : D → Heap → Prop} {p0 : List UInt8} {p1 : Int} (h : Heap) (hF : OptP ((F_lecternref01_Read p0 p1).bind f) G) (hk : ∀ r, F_lecternref01_Read p0 p1 = some r → OptP (f r) G → R (.tup [.int .i64 r.1, .int .i64 r.2]) h) : CallsA Tryd.prog 53 [.sl 1 (List.map c_u8 p0) 0, .int .i64 p1] h R := by
  obtain ⟨r0, hr, hF⟩ := F_bind hF
  refine (F_lecternref01_Read_w (G := fun r => r = r0) p0 p1 h ⟨r0, hr, rfl⟩).mono ?_
  rintro _ _ ⟨r, rfl, rfl, rfl⟩
  exact hk _ hr hF
theorem F_lecternref01_Char_w (p0 : Int) {G : Bool → Prop} (h : Heap) (hF : OptP (F_lecternref01_Char p0) G) : CallsA Tryd.prog 54 [.int .i64 p0] h fun d h' => ∃ r, G r ∧ d = .bool r ∧ h' = h := by
  refine CallsA.ret ?_
  refine C_body Tryd.func54 rfl en_54 Tryd.ntmps54 rfl (fun ok => ?_)
  rw [F_lecternref01_Char] at hF
  refine C_seq ?_
  refine C_reg (mdl []) ?_
  refine S_a (v := .bool _) rfl ?_
  refine S_nil ?_
  refine C_seq ?_
  refine C_reg (mdl []) ?_
  refine S_m (v := .int _ _) rfl ?_
  refine S_bin rfl rfl (ev_eql ..) ?_
  refine S_m (v := .bool _) rfl ?_
  refine S_two (b := (p0 == (9 : Int))) 3 8 (.bool ((p0 == (9 : Int)) || (p0 == (10 : Int)))) (fun hb1 => ?_) (fun hb1 => ?_) ?_
  ·
    refine S_off rfl rfl hb1 ?_
    refine S_offD ?_
    refine S_off rfl rfl hb1 ?_
    refine S_offD ?_
    refine S_pickT (v := .bool _) rfl hb1 rfl ?_
    refine S_nil ?_
    refine .hd (or_t hb1) ?_
    repeat (first | with_reducible exact WS.refl _ | refine WS.add ?_ rfl)
  ·
    refine S_on rfl rfl hb1 ?_
    refine S_in ?_
    refine S_m (v := .int _ _) rfl ?_
    refine S_nil ?_
    refine S_on rfl rfl hb1 ?_
    refine S_in ?_
    refine S_bin rfl rfl (ev_eql ..) ?_
    refine S_nil ?_
    refine S_pickF (v := .bool _) rfl hb1 rfl ?_
    refine S_nil ?_
    refine .hd (or_f hb1) ?_
    repeat (first | with_reducible exact WS.refl _ | refine WS.add ?_ rfl)
  refine S_m (v := .bool _) rfl ?_
  refine S_two (b := ((p0 == (9 : Int)) || (p0 == (10 : Int)))) 3 12 (.bool (((p0 == (9 : Int)) || (p0 == (10 : Int))) || (p0 == (13 : Int)))) (fun hb2 => ?_) (fun hb2 => ?_) ?_
  ·
    refine S_off rfl rfl hb2 ?_
    refine S_offD ?_
    refine S_off rfl rfl hb2 ?_
    refine S_offD ?_
    refine S_pickT (v := .bool _) rfl hb2 rfl ?_
    refine S_nil ?_
    refine .hd (or_t hb2) ?_
    repeat (first | with_reducible exact WS.refl _ | refine WS.add ?_ rfl)
  ·
    refine S_on rfl rfl hb2 ?_
    refine S_in ?_
    refine S_m (v := .int _ _) rfl ?_
    refine S_nil ?_
    refine S_on rfl rfl hb2 ?_
    refine S_in ?_
    refine S_bin rfl rfl (ev_eql ..) ?_
    refine S_nil ?_
    refine S_pickF (v := .bool _) rfl hb2 rfl ?_
    refine S_nil ?_
    refine .hd (or_f hb2) ?_
    repeat (first | with_reducible exact WS.refl _ | refine WS.add ?_ rfl)
  refine S_m (v := .bool _) rfl ?_
  refine S_two (b := (((p0 == (9 : Int)) || (p0 == (10 : Int))) || (p0 == (13 : Int)))) 7 20 (.bool ((((p0 == (9 : Int)) || (p0 == (10 : Int))) || (p0 == (13 : Int))) || ((decide ((32 : Int) ≤ p0)) && (decide (p0 ≤ (55295 : Int)))))) (fun hb3 => ?_) (fun hb3 => ?_) ?_
  ·
    refine S_off rfl rfl hb3 ?_
    refine S_offD ?_
    refine S_off rfl rfl hb3 ?_
    refine S_offD ?_
    refine S_off rfl rfl hb3 ?_
    refine S_offD ?_
    refine S_off2 rfl rfl ?_
    refine S_offD ?_
    refine S_off2 rfl rfl ?_
    refine S_offD ?_
    refine S_off rfl rfl hb3 ?_
    refine S_offD ?_
    refine S_pickT (v := .bool _) rfl hb3 rfl ?_
    refine S_nil ?_
    refine .hd (or_t hb3) ?_
    repeat (first | with_reducible exact WS.refl _ | refine WS.add ?_ rfl)
  ·
    refine S_on rfl rfl hb3 ?_
    refine S_in ?_
    refine S_m (v := .int _ _) rfl ?_
    refine S_nil ?_
    refine S_on rfl rfl hb3 ?_
    refine S_in ?_
    refine S_bin rfl rfl (ev_geq ..) ?_
    refine S_nil ?_
    refine S_on rfl rfl hb3 ?_
    refine S_in ?_
    refine S_m (v := .bool _) rfl ?_
    refine S_nil ?_
    refine S_two (b := (decide ((32 : Int) ≤ p0))) 3 19 (.bool ((decide ((32 : Int) ≤ p0)) && (decide (p0 ≤ (55295 : Int))))) (fun hb5 => ?_) (fun hb5 => ?_) ?_
    ·
      refine S_on rfl rfl hb5 ?_
      refine S_in ?_
      refine S_m (v := .int _ _) rfl ?_
      refine S_nil ?_
      refine S_on rfl rfl hb5 ?_
      refine S_in ?_
      refine S_bin rfl rfl (ev_leq ..) ?_
      refine S_nil ?_
      refine S_on rfl rfl hb3 ?_
      refine S_in ?_
      refine S_pickT (v := .bool _) rfl hb5 rfl ?_
      refine S_nil ?_
      refine S_nil ?_
      refine .hd (and_t hb5) ?_
      repeat (first | with_reducible exact WS.refl _ | refine WS.add ?_ rfl)
    ·
      refine S_off rfl rfl hb5 ?_
      refine S_offD ?_
      refine S_off rfl rfl hb5 ?_
      refine S_offD ?_
      refine S_on rfl rfl hb3 ?_
      refine S_in ?_
      refine S_pickF (v := .bool _) rfl hb5 rfl ?_
      refine S_nil ?_
      refine S_nil ?_
      refine .hd (and_f hb5) ?_
      repeat (first | with_reducible exact WS.refl _ | refine WS.add ?_ rfl)
    refine S_pickF (v := .bool _) rfl hb3 rfl ?_
    refine S_nil ?_
    refine .hd (or_f hb3) ?_
    repeat (first | with_reducible exact WS.refl _ | refine WS.add ?_ rfl)
  refine S_m (v := .bool _) rfl ?_
  refine S_two (b := ((((p0 == (9 : Int)) || (p0 == (10 : Int))) || (p0 == (13 : Int))) || ((decide ((32 : Int) ≤ p0)) && (decide (p0 ≤ (55295 : Int)))))) 7 28 (.bool (((((p0 == (9 : Int)) || (p0 == (10 : Int))) || (p0 == (13 : Int))) || ((decide ((32 : Int) ≤ p0)) && (decide (p0 ≤ (55295 : Int))))) || ((decide ((57344 : Int) ≤ p0)) && (decide (p0 ≤ (65533 : Int)))))) (fun hb6 => ?_) (fun hb6 => ?_) ?_
  ·
    refine S_off rfl rfl hb6 ?_
    refine S_offD ?_
    refine S_off rfl rfl hb6 ?_
    refine S_offD ?_
    refine S_off rfl rfl hb6 ?_
    refine S_offD ?_
    refine S_off2 rfl rfl ?_
    refine S_offD ?_
    refine S_off2 rfl rfl ?_
    refine S_offD ?_
    refine S_off rfl rfl hb6 ?_
    refine S_offD ?_
    refine S_pickT (v := .bool _) rfl hb6 rfl ?_
    refine S_nil ?_
    refine .hd (or_t hb6) ?_
    repeat (first | with_reducible exact WS.refl _ | refine WS.add ?_ rfl)
  ·
    refine S_on rfl rfl hb6 ?_
    refine S_in ?_
    refine S_m (v := .int _ _) rfl ?_
    refine S_nil ?_
    refine S_on rfl rfl hb6 ?_
    refine S_in ?_
    refine S_bin rfl rfl (ev_geq ..) ?_
    refine S_nil ?_
    refine S_on rfl rfl hb6 ?_
    refine S_in ?_
    refine S_m (v := .bool _) rfl ?_
    refine S_nil ?_
    refine S_two (b := (decide ((57344 : Int) ≤ p0))) 3 27 (.bool ((decide ((57344 : Int) ≤ p0)) && (decide (p0 ≤ (65533 : Int))))) (fun hb8 => ?_) (fun hb8 => ?_) ?_
    ·
      refine S_on rfl rfl hb8 ?_
      refine S_in ?_
      refine S_m (v := .int _ _) rfl ?_
      refine S_nil ?_
      refine S_on rfl rfl hb8 ?_
      refine S_in ?_
      refine S_bin rfl rfl (ev_leq ..) ?_
      refine S_nil ?_
      refine S_on rfl rfl hb6 ?_
      refine S_in ?_
      refine S_pickT (v := .bool _) rfl hb8 rfl ?_
      refine S_nil ?_
      refine S_nil ?_
      refine .hd (and_t hb8) ?_
      repeat (first | with_reducible exact WS.refl _ | refine WS.add ?_ rfl)
    ·
      refine S_off rfl rfl hb8 ?_
      refine S_offD ?_
      refine S_off rfl rfl hb8 ?_
      refine S_offD ?_
      refine S_on rfl rfl hb6 ?_
      refine S_in ?_
      refine S_pickF (v := .bool _) rfl hb8 rfl ?_
      refine S_nil ?_
      refine S_nil ?_
      refine .hd (and_f hb8) ?_
      repeat (first | with_reducible exact WS.refl _ | refine WS.add ?_ rfl)
    refine S_pickF (v := .bool _) rfl hb6 rfl ?_
    refine S_nil ?_
    refine .hd (or_f hb6) ?_
    repeat (first | with_reducible exact WS.refl _ | refine WS.add ?_ rfl)
  refine S_m (v := .bool _) rfl ?_
  refine S_two (b := (((((p0 == (9 : Int)) || (p0 == (10 : Int))) || (p0 == (13 : Int))) || ((decide ((32 : Int) ≤ p0)) && (decide (p0 ≤ (55295 : Int))))) || ((decide ((57344 : Int) ≤ p0)) && (decide (p0 ≤ (65533 : Int)))))) 7 36 (.bool ((((((p0 == (9 : Int)) || (p0 == (10 : Int))) || (p0 == (13 : Int))) || ((decide ((32 : Int) ≤ p0)) && (decide (p0 ≤ (55295 : Int))))) || ((decide ((57344 : Int) ≤ p0)) && (decide (p0 ≤ (65533 : Int))))) || ((decide ((65536 : Int) ≤ p0)) && (decide (p0 ≤ (1114111 : Int)))))) (fun hb9 => ?_) (fun hb9 => ?_) ?_
  ·
    refine S_off rfl rfl hb9 ?_
    refine S_offD ?_
    refine S_off rfl rfl hb9 ?_
    refine S_offD ?_
    refine S_off rfl rfl hb9 ?_
    refine S_offD ?_
    refine S_off2 rfl rfl ?_
    refine S_offD ?_
    refine S_off2 rfl rfl ?_
    refine S_offD ?_
    refine S_off rfl rfl hb9 ?_
    refine S_offD ?_
    refine S_pickT (v := .bool _) rfl hb9 rfl ?_
    refine S_nil ?_
    refine .hd (or_t hb9) ?_
    repeat (first | with_reducible exact WS.refl _ | refine WS.add ?_ rfl)
  ·
    refine S_on rfl rfl hb9 ?_
    refine S_in ?_
    refine S_m (v := .int _ _) rfl ?_
    refine S_nil ?_
    refine S_on rfl rfl hb9 ?_
    refine S_in ?_
    refine S_bin rfl rfl (ev_geq ..) ?_
    refine S_nil ?_
    refine S_on rfl rfl hb9 ?_
    refine S_in ?_
    refine S_m (v := .bool _) rfl ?_
    refine S_nil ?_
    refine S_two (b := (decide ((65536 : Int) ≤ p0))) 3 35 (.bool ((decide ((65536 : Int) ≤ p0)) && (decide (p0 ≤ (1114111 : Int))))) (fun hb11 => ?_) (fun hb11 => ?_) ?_
    ·
      refine S_on rfl rfl hb11 ?_
      refine S_in ?_
      refine S_m (v := .int _ _) rfl ?_
      refine S_nil ?_
      refine S_on rfl rfl hb11 ?_
      refine S_in ?_
      refine S_bin rfl rfl (ev_leq ..) ?_
      refine S_nil ?_
      refine S_on rfl rfl hb9 ?_
      refine S_in ?_
      refine S_pickT (v := .bool _) rfl hb11 rfl ?_
      refine S_nil ?_
      refine S_nil ?_
      refine .hd (and_t hb11) ?_
      repeat (first | with_reducible exact WS.refl _ | refine WS.add ?_ rfl)
    ·
      refine S_off rfl rfl hb11 ?_
      refine S_offD ?_
      refine S_off rfl rfl hb11 ?_
      refine S_offD ?_
      refine S_on rfl rfl hb9 ?_
      refine S_in ?_
      refine S_pickF (v := .bool _) rfl hb11 rfl ?_
      refine S_nil ?_
      refine S_nil ?_
      refine .hd (and_f hb11) ?_
      repeat (first | with_reducible exact WS.refl _ | refine WS.add ?_ rfl)
    refine S_pickF (v := .bool _) rfl hb9 rfl ?_
    refine S_nil ?_
    refine .hd (or_f hb9) ?_
    repeat (first | with_reducible exact WS.refl _ | refine WS.add ?_ rfl)
  refine S_a (v := .bool _) rfl ?_
  refine S_nil ?_
  refine WP_ret ?_
  repeat (first | with_reducible refine Exit.sel_ret ?_ | with_reducible refine Exit.blk_ret ?_)
  refine C_ret (fn := Tryd.f54) rfl (.tmp (v := .bool ((((((p0 == (9 : Int)) || (p0 == (10 : Int))) || (p0 == (13 : Int))) || ((decide ((32 : Int) ≤ p0)) && (decide (p0 ≤ (55295 : Int))))) || ((decide ((57344 : Int) ≤ p0)) && (decide (p0 ≤ (65533 : Int))))) || ((decide ((65536 : Int) ≤ p0)) && (decide (p0 ≤ (1114111 : Int)))))) rfl .nil) ?_
  exact ⟨_, _, (.refl _), ok.wh, _, F_some hF, rfl, rfl⟩
theorem F_lecternref01_Char_ok {β : Type} {f : Bool → Option β} {G : β → Prop} {R : D → Heap → Prop} {p0 : Int} (h : Heap) (hF : OptP ((F_lecternref01_Char p0).bind f) G) (hk : ∀ r, F_lecternref01_Char p0 = some r → OptP (f r) G → R (.bool r) h) : CallsA Tryd.prog 54 [.int .i64 p0] h R := by
  obtain ⟨r0, hr, hF⟩ := F_bind hF
  refine (F_lecternref01_Char_w (G := fun r => r = r0) p0 h ⟨r0, hr, rfl⟩).mono ?_
  rintro _ _ ⟨r, rfl, rfl, rfl⟩
  exact hk _ hr hF
theorem F_lecternref01_Fault_w (p0 : List UInt8) {G : Int × Int → Prop} (h : Heap) (hF : OptP (F_lecternref01_Fault p0) G) : CallsA Tryd.prog 31 [.sl 1 (List.map c_u8 p0) 0] h fun d h' => ∃ r, G r ∧ d = .tup [.int .i64 r.1, .int .i64 r.2] ∧ h' = h := by
  refine CallsA.ret ?_
  refine C_body Tryd.func31 rfl en_31 Tryd.ntmps31 rfl (fun ok => ?_)
  rw [F_lecternref01_Fault] at hF
  refine C_seq ?_
  refine C_reg (mdl []) ?_
  refine S_a (v := .int _ _) rfl ?_
  refine S_a (v := .int _ _) rfl ?_
  refine S_nil ?_
  refine C_join hF (fun (_ : Unit) s' => OK h [] ∧ WS s' ⟨mkSl 27 [], Hp h []⟩) (fun J7 hF => ?_) ?_
  ·
    refine C_seq ?_
    refine C_reg (mdl []) ?_
    refine S_a (v := .int _ _) rfl ?_
    refine S_nil ?_
    refine WP_block ?_
    refine C_loop (σ := Int) hF (fun (a8 : Int) s' => OK h [] ∧ WS s' ⟨mkSl 27 [(0, .sl 1 (List.map c_u8 p0) 0), (4, .int .i64 a8)], Hp h []⟩) ?_ ?_
    ·
      have hwo : WO [] [] := .nil
      exact ⟨(hwo.spec ok).1, WS.mk' (.cons (.refl _) (.cons (.refl _) .nil)) ok hwo⟩
    ·
      rintro G9 hG10 rec11 a8 s' ih12 hF ⟨ok, hws⟩
      refine WP_ws hws ?_
      clear hws s'
      rw [F_lecternref01_Fault_l0] at hF
      refine C_seq ?_
      refine C_seq ?_
      refine C_reg (mdl []) ?_
      refine S_m (v := .int _ _) rfl ?_
      refine S_m (v := .sl _ _ _) rfl ?_
      refine S_lenL rfl ty_sl_72 ?_
      refine S_bin rfl rfl (ev_lss ..) ?_
      refine S_nil ?_
      refine C_if (b := (decide (a8 < (p0.length : Int)))) rfl hF (fun hb13 hF => ?_) (fun hb13 hF => ?_)
      ·
        refine WP_skip ?_
        refine WP_block ?_
        refine C_seq ?_
        refine C_reg (mdl []) ?_
        refine S_m (v := .sl _ _ _) rfl ?_
        refine S_m (v := .int _ _) rfl ?_
        refine S_call (F_lecternref01_Read_ok _ hF fun x14 _ hF => ?_) (.cons (.refl _) (.cons (.refl _) (.nil)))
        refine S_m (v := .tup _) rfl ?_
        refine S_ext rfl rfl ?_
        refine S_ext rfl rfl ?_
        refine S_a (v := .int _ _) rfl ?_
        refine S_a (v := .int _ _) rfl ?_
        refine S_nil ?_
        refine C_seq ?_
        refine C_seq ?_
        refine C_reg (mdl []) ?_
        refine S_m (v := .int _ _) rfl ?_
        refine S_bin rfl rfl (ev_eql ..) ?_
        refine S_nil ?_
        refine C_if (b := (x14.2 == (0 : Int))) rfl hF (fun hb15 hF => ?_) (fun hb15 hF => ?_)
        ·
          refine C_seq ?_
          refine C_reg (mdl []) ?_
          refine S_m (v := .int _ _) rfl ?_
          refine S_a (v := .int _ _) rfl ?_
          refine S_a (v := .int _ _) rfl ?_
          refine S_nil ?_
          refine WP_ret ?_
          replace hF := hG10 _ (F_some hF)
          repeat (first | with_reducible refine Exit.sel_ret ?_ | with_reducible refine Exit.blk_ret ?_)
          refine C_ret (fn := Tryd.f31) rfl (.tmp (v := .int .i64 a8) rfl (.tmp (v := .int .i64 (20 : Int)) rfl .nil)) ?_
          exact ⟨_, _, (.tupC (.cons (.refl _) (.cons (.refl _) (.nil)))), ok.wh, _, F_some hF, rfl, rfl⟩
        ·
          refine WP_skip ?_
          refine C_seq ?_
          refine C_seq ?_
          refine C_reg (mdl []) ?_
          refine S_m (v := .int _ _) rfl ?_
          refine S_call (F_lecternref01_Char_ok _ hF fun x16 _ hF => ?_) (.cons (.refl _) (.nil))
          refine S_un rfl (ev_not _) ?_
          refine S_nil ?_
          refine C_if (b := (!x16)) rfl hF (fun hb17 hF => ?_) (fun hb17 hF => ?_)
          ·
            refine C_seq ?_
            refine C_reg (mdl []) ?_
            refine S_m (v := .int _ _) rfl ?_
            refine S_a (v := .int _ _) rfl ?_
            refine S_a (v := .int _ _) rfl ?_
            refine S_nil ?_
            refine WP_ret ?_
            replace hF := hG10 _ (F_some hF)
            repeat (first | with_reducible refine Exit.sel_ret ?_ | with_reducible refine Exit.blk_ret ?_)
            refine C_ret (fn := Tryd.f31) rfl (.tmp (v := .int .i64 a8) rfl (.tmp (v := .int .i64 (21 : Int)) rfl .nil)) ?_
            exact ⟨_, _, (.tupC (.cons (.refl _) (.cons (.refl _) (.nil)))), ok.wh, _, F_some hF, rfl, rfl⟩
          ·
            refine WP_skip ?_
            refine C_reg (mdl []) ?_
            refine S_m (v := .int _ _) rfl ?_
            refine S_m (v := .int _ _) rfl ?_
            refine S_bin rfl rfl (ev_add ..) ?_
            refine S_a (v := .int _ _) rfl ?_
            refine S_nil ?_
            refine ih12 (IntKind.wrap .i64 (a8 + x14.2)) _ hF ?_
            have hwo : WO [] [] := .nil
            exact ⟨(hwo.spec ok).1, WS.mk' (.cons (.refl _) (.cons (.refl _) .nil)) ok hwo⟩
      ·
        refine WP_exit ?_
        simp only [Exit.sel, Exit.blk, if_true, if_false, reduceIte, Nat.reduceEqDiff, Nat.succ_ne_zero, Nat.zero_ne_one, Nat.one_ne_zero]
        replace hF := hG10 _ (F_some hF)
        have hwo : WO [] [] := .nil
        exact ⟨(), hF, (hwo.spec ok).1, WS.mk' .nil ok hwo⟩
  ·
    rintro ⟨⟩ s' hF ⟨ok, hws⟩
    refine WP_ws hws ?_
    clear hws s'
    refine C_seq ?_
    refine C_reg (mdl []) ?_
    refine S_a (v := .int _ _) rfl ?_
    refine S_a (v := .int _ _) rfl ?_
    refine S_nil ?_
    refine WP_ret ?_
    repeat (first | with_reducible refine Exit.sel_ret ?_ | with_reducible refine Exit.blk_ret ?_)
    refine C_ret (fn := Tryd.f31) rfl (.tmp (v := .int .i64 (0 : Int)) rfl (.tmp (v := .int .i64 (0 : Int)) rfl .nil)) ?_
    exact ⟨_, _, (.tupC (.cons (.refl _) (.cons (.refl _) (.nil)))), ok.wh, _, F_some hF, rfl, rfl⟩
theorem F_lecternref01_Fault_ok {β : Type} {f : Int × Int → Option β} {G : β → Prop} {R : D → Heap → Prop} {p0 : List UInt8} (h : Heap) (hF : OptP ((F_lecternref01_Fault p0).bind f) G) (hk : ∀ r, F_lecternref01_Fault p0 = some r → OptP (f r) G → R (.tup [.int .i64 r.1, .int .i64 r.2]) h) : CallsA Tryd.prog 31 [.sl 1 (List.map c_u8 p0) 0] h R := by
  obtain ⟨r0, hr, hF⟩ := F_bind hF
  refine (F_lecternref01_Fault_w (G := fun r => r = r0) p0 h ⟨r0, hr, rfl⟩).mono ?_
  rintro _ _ ⟨r, rfl, rfl, rfl⟩
  exact hk _ hr hF
theorem F_lecternref01_Start_w (p0 : Int) {G : Bool → Prop} (h : Heap) (hF : OptP (F_lecternref01_Start p0) G) : CallsA Tryd.prog 56 [.int .i64 p0] h fun d h' => ∃ r, G r ∧ d = .bool r ∧ h' = h := by
  refine CallsA.ret ?_
  refine C_body Tryd.func56 rfl en_56 Tryd.ntmps56 rfl (fun ok => ?_)
  rw [F_lecternref01_Start] at hF
  refine C_seq ?_
  refine C_reg (mdl []) ?_
  refine S_a (v := .bool _) rfl ?_
  refine S_nil ?_
  refine C_seq ?_
  refine WP_block ?_
  refine C_join hF (fun (a5 : Bool) s' => OK h [] ∧ WS s' ⟨mkSl 83 [(0, .int .i64 p0), (3, .bool a5)], Hp h []⟩) (fun J6 hF => ?_) ?_
  ·
    refine C_seq ?_
    refine C_reg (mdl []) ?_
    refine S_m (v := .int _ _) rfl ?_
    refine S_bin rfl rfl (ev_geq ..) ?_
    refine S_m (v := .bool _) rfl ?_
    refine S_two (b := (decide ((65 : Int) ≤ p0))) 3 9 (.bool ((decide ((65 : Int) ≤ p0)) && (decide (p0 ≤ (90 : Int))))) (fun hb7 => ?_) (fun hb7 => ?_) ?_
    ·
      refine S_on rfl rfl hb7 ?_
      refine S_in ?_
      refine S_m (v := .int _ _) rfl ?_
      refine S_nil ?_
      refine S_on rfl rfl hb7 ?_
      refine S_in ?_
      refine S_bin rfl rfl (ev_leq ..) ?_
      refine S_nil ?_
      refine S_pickT (v := .bool _) rfl hb7 rfl ?_
      refine S_nil ?_
      refine .hd (and_t hb7) ?_
      repeat (first | with_reducible exact WS.refl _ | refine WS.add ?_ rfl)
    ·
      refine S_off rfl rfl hb7 ?_
      refine S_offD ?_
      refine S_off rfl rfl hb7 ?_
      refine S_offD ?_
      refine S_pickF (v := .bool _) rfl hb7 rfl ?_
      refine S_nil ?_
      refine .hd (and_f hb7) ?_
      repeat (first | with_reducible exact WS.refl _ | refine WS.add ?_ rfl)
    refine S_a (v := .bool _) rfl ?_
    refine S_nil ?_
    refine C_if (b := ((decide ((65 : Int) ≤ p0)) && (decide (p0 ≤ (90 : Int))))) rfl hF (fun hb8 hF => ?_) (fun hb8 hF => ?_)
    ·
      refine WP_skip ?_
      have hwo : WO [] [] := .nil
      exact ⟨((decide ((65 : Int) ≤ p0)) && (decide (p0 ≤ (90 : Int)))), hF, (hwo.spec ok).1, WS.mk' (.cons (.refl _) (.cons (.refl _) .nil)) ok hwo⟩
    ·
      refine C_seq ?_
      refine C_reg (mdl []) ?_
      refine S_m (v := .int _ _) rfl ?_
      refine S_bin rfl rfl (ev_eql ..) ?_
      refine S_a (v := .bool _) rfl ?_
      refine S_nil ?_
      refine C_if (b := (p0 == (95 : Int))) rfl hF (fun hb9 hF => ?_) (fun hb9 hF => ?_)
      ·
        refine WP_skip ?_
        have hwo : WO [] [] := .nil
        exact ⟨(p0 == (95 : Int)), hF, (hwo.spec ok).1, WS.mk' (.cons (.refl _) (.cons (.refl _) .nil)) ok hwo⟩
      ·
        refine C_reg (mdl []) ?_
        refine S_m (v := .int _ _) rfl ?_
        refine S_bin rfl rfl (ev_geq ..) ?_
        refine S_m (v := .bool _) rfl ?_
        refine S_two (b := (decide ((97 : Int) ≤ p0))) 3 17 (.bool ((decide ((97 : Int) ≤ p0)) && (decide (p0 ≤ (122 : Int))))) (fun hb10 => ?_) (fun hb10 => ?_) ?_
        ·
          refine S_on rfl rfl hb10 ?_
          refine S_in ?_
          refine S_m (v := .int _ _) rfl ?_
          refine S_nil ?_
          refine S_on rfl rfl hb10 ?_
          refine S_in ?_
          refine S_bin rfl rfl (ev_leq ..) ?_
          refine S_nil ?_
          refine S_pickT (v := .bool _) rfl hb10 rfl ?_
          refine S_nil ?_
          refine .hd (and_t hb10) ?_
          repeat (first | with_reducible exact WS.refl _ | refine WS.add ?_ rfl)
        ·
          refine S_off rfl rfl hb10 ?_
          refine S_offD ?_
          refine S_off rfl rfl hb10 ?_
          refine S_offD ?_
          refine S_pickF (v := .bool _) rfl hb10 rfl ?_
          refine S_nil ?_
          refine .hd (and_f hb10) ?_
          repeat (first | with_reducible exact WS.refl _ | refine WS.add ?_ rfl)
        refine S_a (v := .bool _) rfl ?_
        refine S_nil ?_
        have hwo : WO [] [] := .nil
        exact ⟨((decide ((97 : Int) ≤ p0)) && (decide (p0 ≤ (122 : Int)))), hF, (hwo.spec ok).1, WS.mk' (.cons (.refl _) (.cons (.refl _) .nil)) ok hwo⟩
  ·
    rintro a5 s' hF ⟨ok, hws⟩
    refine WP_ws hws ?_
    clear hws s'
    refine C_if (b := a5) rfl hF (fun hb11 hF => ?_) (fun hb11 hF => ?_)
    ·
      refine C_seq ?_
      refine C_reg (mdl []) ?_
      refine S_a (v := .bool _) rfl ?_
      refine S_nil ?_
      refine WP_ret ?_
      repeat (first | with_reducible refine Exit.sel_ret ?_ | with_reducible refine Exit.blk_ret ?_)
      refine C_ret (fn := Tryd.f56) rfl (.tmp (v := .bool true) rfl .nil) ?_
      exact ⟨_, _, (.refl _), ok.wh, _, F_some hF, rfl, rfl⟩
    ·
      refine C_seq ?_
      refine C_reg (mdl []) ?_
      refine S_m (v := .int _ _) rfl ?_
      refine S_bin rfl rfl (ev_geq ..) ?_
      refine S_m (v := .bool _) rfl ?_
      refine S_two (b := (decide ((192 : Int) ≤ p0))) 3 24 (.bool ((decide ((192 : Int) ≤ p0)) && (decide (p0 ≤ (767 : Int))))) (fun hb12 => ?_) (fun hb12 => ?_) ?_
      ·
        refine S_on rfl rfl hb12 ?_
        refine S_in ?_
        refine S_m (v := .int _ _) rfl ?_
        refine S_nil ?_
        refine S_on rfl rfl hb12 ?_
        refine S_in ?_
        refine S_bin rfl rfl (ev_leq ..) ?_
        refine S_nil ?_
        refine S_pickT (v := .bool _) rfl hb12 rfl ?_
        refine S_nil ?_
        refine .hd (and_t hb12) ?_
        repeat (first | with_reducible exact WS.refl _ | refine WS.add ?_ rfl)
      ·
        refine S_off rfl rfl hb12 ?_
        refine S_offD ?_
        refine S_off rfl rfl hb12 ?_
        refine S_offD ?_
        refine S_pickF (v := .bool _) rfl hb12 rfl ?_
        refine S_nil ?_
        refine .hd (and_f hb12) ?_
        repeat (first | with_reducible exact WS.refl _ | refine WS.add ?_ rfl)
      refine S_a (v := .bool _) rfl ?_
      refine S_nil ?_
      refine C_if (b := ((decide ((192 : Int) ≤ p0)) && (decide (p0 ≤ (767 : Int))))) rfl hF (fun hb13 hF => ?_) (fun hb13 hF => ?_)
      ·
        refine C_seq ?_
        refine C_reg (mdl []) ?_
        refine S_m (v := .int _ _) rfl ?_
        refine S_bin rfl rfl (ev_neq ..) ?_
        refine S_m (v := .bool _) rfl ?_
        refine S_two (b := (p0 != (215 : Int))) 3 30 (.bool ((p0 != (215 : Int)) && (p0 != (247 : Int)))) (fun hb14 => ?_) (fun hb14 => ?_) ?_
        ·
          refine S_on rfl rfl hb14 ?_
          refine S_in ?_
          refine S_m (v := .int _ _) rfl ?_
          refine S_nil ?_
          refine S_on rfl rfl hb14 ?_
          refine S_in ?_
          refine S_bin rfl rfl (ev_neq ..) ?_
          refine S_nil ?_
          refine S_pickT (v := .bool _) rfl hb14 rfl ?_
          refine S_nil ?_
          refine .hd (and_t hb14) ?_
          repeat (first | with_reducible exact WS.refl _ | refine WS.add ?_ rfl)
        ·
          refine S_off rfl rfl hb14 ?_
          refine S_offD ?_
          refine S_off rfl rfl hb14 ?_
          refine S_offD ?_
          refine S_pickF (v := .bool _) rfl hb14 rfl ?_
          refine S_nil ?_
          refine .hd (and_f hb14) ?_
          repeat (first | with_reducible exact WS.refl _ | refine WS.add ?_ rfl)
        refine S_a (v := .bool _) rfl ?_
        refine S_nil ?_
        refine WP_ret ?_
        repeat (first | with_reducible refine Exit.sel_ret ?_ | with_reducible refine Exit.blk_ret ?_)
        refine C_ret (fn := Tryd.f56) rfl (.tmp (v := .bool ((p0 != (215 : Int)) && (p0 != (247 : Int)))) rfl .nil) ?_
        exact ⟨_, _, (.refl _), ok.wh, _, F_some hF, rfl, rfl⟩
      ·
        refine C_seq ?_
        refine C_reg (mdl []) ?_
        refine S_m (v := .int _ _) rfl ?_
        refine S_bin rfl rfl (ev_geq ..) ?_
        refine S_m (v := .bool _) rfl ?_
        refine S_two (b := (decide ((880 : Int) ≤ p0))) 3 37 (.bool ((decide ((880 : Int) ≤ p0)) && (decide (p0 ≤ (8191 : Int))))) (fun hb15 => ?_) (fun hb15 => ?_) ?_
        ·
          refine S_on rfl rfl hb15 ?_
          refine S_in ?_
          refine S_m (v := .int _ _) rfl ?_
          refine S_nil ?_
          refine S_on rfl rfl hb15 ?_
          refine S_in ?_
          refine S_bin rfl rfl (ev_leq ..) ?_
          refine S_nil ?_
          refine S_pickT (v := .bool _) rfl hb15 rfl ?_
          refine S_nil ?_
          refine .hd (and_t hb15) ?_
          repeat (first | with_reducible exact WS.refl _ | refine WS.add ?_ rfl)
        ·
          refine S_off rfl rfl hb15 ?_
          refine S_offD ?_
          refine S_off rfl rfl hb15 ?_
          refine S_offD ?_
          refine S_pickF (v := .bool _) rfl hb15 rfl ?_
          refine S_nil ?_
          refine .hd (and_f hb15) ?_
          repeat (first | with_reducible exact WS.refl _ | refine WS.add ?_ rfl)
        refine S_a (v := .bool _) rfl ?_
        refine S_nil ?_
        refine C_if (b := ((decide ((880 : Int) ≤ p0)) && (decide (p0 ≤ (8191 : Int))))) rfl hF (fun hb16 hF => ?_) (fun hb16 hF => ?_)
        ·
          refine C_seq ?_
          refine C_reg (mdl []) ?_
          refine S_m (v := .int _ _) rfl ?_
          refine S_bin rfl rfl (ev_neq ..) ?_
          refine S_a (v := .bool _) rfl ?_
          refine S_nil ?_
          refine WP_ret ?_
          repeat (first | with_reducible refine Exit.sel_ret ?_ | with_reducible refine Exit.blk_ret ?_)
          refine C_ret (fn := Tryd.f56) rfl (.tmp (v := .bool (p0 != (894 : Int))) rfl .nil) ?_
          exact ⟨_, _, (.refl _), ok.wh, _, F_some hF, rfl, rfl⟩
        ·
          refine C_join hF (fun (a18 : Bool) s' => OK h [] ∧ WS s' ⟨mkSl 83 [(0, .int .i64 p0), (40, .bool a18)], Hp h []⟩) (fun J19 hF => ?_) ?_
          ·
            refine C_seq ?_
            refine C_reg (mdl []) ?_
            refine S_m (v := .int _ _) rfl ?_
            refine S_bin rfl rfl (ev_eql ..) ?_
            refine S_a (v := .bool _) rfl ?_
            refine S_nil ?_
            refine C_if (b := (p0 == (8204 : Int))) rfl hF (fun hb20 hF => ?_) (fun hb20 hF => ?_)
            ·
              refine WP_skip ?_
              have hwo : WO [] [] := .nil
              exact ⟨(p0 == (8204 : Int)), hF, (hwo.spec ok).1, WS.mk' (.cons (.refl _) (.cons (.refl _) .nil)) ok hwo⟩
            ·
              refine C_reg (mdl []) ?_
              refine S_m (v := .int _ _) rfl ?_
              refine S_bin rfl rfl (ev_eql ..) ?_
              refine S_a (v := .bool _) rfl ?_
              refine S_nil ?_
              have hwo : WO [] [] := .nil
              exact ⟨(p0 == (8205 : Int)), hF, (hwo.spec ok).1, WS.mk' (.cons (.refl _) (.cons (.refl _) .nil)) ok hwo⟩
          ·
            rintro a18 s' hF ⟨ok, hws⟩
            refine WP_ws hws ?_
            clear hws s'
            refine C_if (b := a18) rfl hF (fun hb21 hF => ?_) (fun hb21 hF => ?_)
            ·
              refine C_seq ?_
              refine C_reg (mdl []) ?_
              refine S_a (v := .bool _) rfl ?_
              refine S_nil ?_
              refine WP_ret ?_
              repeat (first | with_reducible refine Exit.sel_ret ?_ | with_reducible refine Exit.blk_ret ?_)
              refine C_ret (fn := Tryd.f56) rfl (.tmp (v := .bool true) rfl .nil) ?_
              exact ⟨_, _, (.refl _), ok.wh, _, F_some hF, rfl, rfl⟩
            ·
              refine C_join hF (fun (a27 : Bool) s' => OK h [] ∧ WS s' ⟨mkSl 83 [(0, .int .i64 p0), (45, .bool a27)], Hp h []⟩) (fun J28 hF => ?_) ?_
              ·
                refine C_seq ?_
                refine C_reg (mdl []) ?_
                refine S_m (v := .int _ _) rfl ?_
                refine S_bin rfl rfl (ev_geq ..) ?_
                refine S_m (v := .bool _) rfl ?_
                refine S_two (b := (decide ((8304 : Int) ≤ p0))) 3 51 (.bool ((decide ((8304 : Int) ≤ p0)) && (decide (p0 ≤ (8591 : Int))))) (fun hb29 => ?_) (fun hb29 => ?_) ?_
                ·
                  refine S_on rfl rfl hb29 ?_
                  refine S_in ?_
                  refine S_m (v := .int _ _) rfl ?_
                  refine S_nil ?_
                  refine S_on rfl rfl hb29 ?_
                  refine S_in ?_
                  refine S_bin rfl rfl (ev_leq ..) ?_
                  refine S_nil ?_
                  refine S_pickT (v := .bool _) rfl hb29 rfl ?_
                  refine S_nil ?_
                  refine .hd (and_t hb29) ?_
                  repeat (first | with_reducible exact WS.refl _ | refine WS.add ?_ rfl)
                ·
                  refine S_off rfl rfl hb29 ?_
                  refine S_offD ?_
                  refine S_off rfl rfl hb29 ?_
                  refine S_offD ?_
                  refine S_pickF (v := .bool _) rfl hb29 rfl ?_
                  refine S_nil ?_
                  refine .hd (and_f hb29) ?_
                  repeat (first | with_reducible exact WS.refl _ | refine WS.add ?_ rfl)
                refine S_a (v := .bool _) rfl ?_
                refine S_nil ?_
                refine C_if (b := ((decide ((8304 : Int) ≤ p0)) && (decide (p0 ≤ (8591 : Int))))) rfl hF (fun hb30 hF => ?_) (fun hb30 hF => ?_)
                ·
                  refine WP_skip ?_
                  have hwo : WO [] [] := .nil
                  exact ⟨((decide ((8304 : Int) ≤ p0)) && (decide (p0 ≤ (8591 : Int)))), hF, (hwo.spec ok).1, WS.mk' (.cons (.refl _) (.cons (.refl _) .nil)) ok hwo⟩
                ·
                  refine C_seq ?_
                  refine C_reg (mdl []) ?_
                  refine S_m (v := .int _ _) rfl ?_
                  refine S_bin rfl rfl (ev_geq ..) ?_
                  refine S_m (v := .bool _) rfl ?_
                  refine S_two (b := (decide ((11264 : Int) ≤ p0))) 3 57 (.bool ((decide ((11264 : Int) ≤ p0)) && (decide (p0 ≤ (12271 : Int))))) (fun hb31 => ?_) (fun hb31 => ?_) ?_
                  ·
                    refine S_on rfl rfl hb31 ?_
                    refine S_in ?_
                    refine S_m (v := .int _ _) rfl ?_
                    refine S_nil ?_
                    refine S_on rfl rfl hb31 ?_
                    refine S_in ?_
                    refine S_bin rfl rfl (ev_leq ..) ?_
                    refine S_nil ?_
                    refine S_pickT (v := .bool _) rfl hb31 rfl ?_
                    refine S_nil ?_
                    refine .hd (and_t hb31) ?_
                    repeat (first | with_reducible exact WS.refl _ | refine WS.add ?_ rfl)
                  ·
                    refine S_off rfl rfl hb31 ?_
                    refine S_offD ?_
                    refine S_off rfl rfl hb31 ?_
                    refine S_offD ?_
                    refine S_pickF (v := .bool _) rfl hb31 rfl ?_
                    refine S_nil ?_
                    refine .hd (and_f hb31) ?_
                    repeat (first | with_reducible exact WS.refl _ | refine WS.add ?_ rfl)
                  refine S_a (v := .bool _) rfl ?_
                  refine S_nil ?_
                  refine C_if (b := ((decide ((11264 : Int) ≤ p0)) && (decide (p0 ≤ (12271 : Int))))) rfl hF (fun hb32 hF => ?_) (fun hb32 hF => ?_)
                  ·
                    refine WP_skip ?_
                    have hwo : WO [] [] := .nil
                    exact ⟨((decide ((11264 : Int) ≤ p0)) && (decide (p0 ≤ (12271 : Int)))), hF, (hwo.spec ok).1, WS.mk' (.cons (.refl _) (.cons (.refl _) .nil)) ok hwo⟩
                  ·
                    refine C_reg (mdl []) ?_
                    refine S_m (v := .int _ _) rfl ?_
                    refine S_bin rfl rfl (ev_geq ..) ?_
                    refine S_m (v := .bool _) rfl ?_
                    refine S_two (b := (decide ((12289 : Int) ≤ p0))) 3 63 (.bool ((decide ((12289 : Int) ≤ p0)) && (decide (p0 ≤ (55295 : Int))))) (fun hb33 => ?_) (fun hb33 => ?_) ?_
                    ·
                      refine S_on rfl rfl hb33 ?_
                      refine S_in ?_
                      refine S_m (v := .int _ _) rfl ?_
                      refine S_nil ?_
                      refine S_on rfl rfl hb33 ?_
                      refine S_in ?_
                      refine S_bin rfl rfl (ev_leq ..) ?_
                      refine S_nil ?_
                      refine S_pickT (v := .bool _) rfl hb33 rfl ?_
                      refine S_nil ?_
                      refine .hd (and_t hb33) ?_
                      repeat (first | with_reducible exact WS.refl _ | refine WS.add ?_ rfl)
                    ·
                      refine S_off rfl rfl hb33 ?_
                      refine S_offD ?_
                      refine S_off rfl rfl hb33 ?_
                      refine S_offD ?_
                      refine S_pickF (v := .bool _) rfl hb33 rfl ?_
                      refine S_nil ?_
                      refine .hd (and_f hb33) ?_
                      repeat (first | with_reducible exact WS.refl _ | refine WS.add ?_ rfl)
                    refine S_a (v := .bool _) rfl ?_
                    refine S_nil ?_
                    have hwo : WO [] [] := .nil
                    exact ⟨((decide ((12289 : Int) ≤ p0)) && (decide (p0 ≤ (55295 : Int)))), hF, (hwo.spec ok).1, WS.mk' (.cons (.refl _) (.cons (.refl _) .nil)) ok hwo⟩
              ·
                rintro a27 s' hF ⟨ok, hws⟩
                refine WP_ws hws ?_
                clear hws s'
                refine C_if (b := a27) rfl hF (fun hb34 hF => ?_) (fun hb34 hF => ?_)
                ·
                  refine C_seq ?_
                  refine C_reg (mdl []) ?_
                  refine S_a (v := .bool _) rfl ?_
                  refine S_nil ?_
                  refine WP_ret ?_
                  repeat (first | with_reducible refine Exit.sel_ret ?_ | with_reducible refine Exit.blk_ret ?_)
                  refine C_ret (fn := Tryd.f56) rfl (.tmp (v := .bool true) rfl .nil) ?_
                  exact ⟨_, _, (.refl _), ok.wh, _, F_some hF, rfl, rfl⟩
                ·
                  refine C_seq ?_
                  refine C_reg (mdl []) ?_
                  refine S_m (v := .int _ _) rfl ?_
                  refine S_bin rfl rfl (ev_geq ..) ?_
                  refine S_m (v := .bool _) rfl ?_
                  refine S_two (b := (decide ((63744 : Int) ≤ p0))) 3 70 (.bool ((decide ((63744 : Int) ≤ p0)) && (decide (p0 ≤ (65533 : Int))))) (fun hb35 => ?_) (fun hb35 => ?_) ?_
                  ·
                    refine S_on rfl rfl hb35 ?_
                    refine S_in ?_
                    refine S_m (v := .int _ _) rfl ?_
                    refine S_nil ?_
                    refine S_on rfl rfl hb35 ?_
                    refine S_in ?_
                    refine S_bin rfl rfl (ev_leq ..) ?_
                    refine S_nil ?_
                    refine S_pickT (v := .bool _) rfl hb35 rfl ?_
                    refine S_nil ?_
                    refine .hd (and_t hb35) ?_
                    repeat (first | with_reducible exact WS.refl _ | refine WS.add ?_ rfl)
                  ·
                    refine S_off rfl rfl hb35 ?_
                    refine S_offD ?_
                    refine S_off rfl rfl hb35 ?_
                    refine S_offD ?_
                    refine S_pickF (v := .bool _) rfl hb35 rfl ?_
                    refine S_nil ?_
                    refine .hd (and_f hb35) ?_
                    repeat (first | with_reducible exact WS.refl _ | refine WS.add ?_ rfl)
                  refine S_a (v := .bool _) rfl ?_
                  refine S_nil ?_
                  refine C_if (b := ((decide ((63744 : Int) ≤ p0)) && (decide (p0 ≤ (65533 : Int))))) rfl hF (fun hb36 hF => ?_) (fun hb36 hF => ?_)
                  ·
                    refine C_seq ?_
                    refine C_reg (mdl []) ?_
                    refine S_m (v := .int _ _) rfl ?_
                    refine S_bin rfl rfl (ev_lss ..) ?_
                    refine S_m (v := .bool _) rfl ?_
                    refine S_two (b := (decide (p0 < (64976 : Int)))) 3 76 (.bool ((decide (p0 < (64976 : Int))) || (decide ((65008 : Int) ≤ p0)))) (fun hb37 => ?_) (fun hb37 => ?_) ?_
                    ·
                      refine S_off rfl rfl hb37 ?_
                      refine S_offD ?_
                      refine S_off rfl rfl hb37 ?_
                      refine S_offD ?_
                      refine S_pickT (v := .bool _) rfl hb37 rfl ?_
                      refine S_nil ?_
                      refine .hd (or_t hb37) ?_
                      repeat (first | with_reducible exact WS.refl _ | refine WS.add ?_ rfl)
                    ·
                      refine S_on rfl rfl hb37 ?_
                      refine S_in ?_
                      refine S_m (v := .int _ _) rfl ?_
                      refine S_nil ?_
                      refine S_on rfl rfl hb37 ?_
                      refine S_in ?_
                      refine S_bin rfl rfl (ev_geq ..) ?_
                      refine S_nil ?_
                      refine S_pickF (v := .bool _) rfl hb37 rfl ?_
                      refine S_nil ?_
                      refine .hd (or_f hb37) ?_
                      repeat (first | with_reducible exact WS.refl _ | refine WS.add ?_ rfl)
                    refine S_a (v := .bool _) rfl ?_
                    refine S_nil ?_
                    refine WP_ret ?_
                    repeat (first | with_reducible refine Exit.sel_ret ?_ | with_reducible refine Exit.blk_ret ?_)
                    refine C_ret (fn := Tryd.f56) rfl (.tmp (v := .bool ((decide (p0 < (64976 : Int))) || (decide ((65008 : Int) ≤ p0)))) rfl .nil) ?_
                    exact ⟨_, _, (.refl _), ok.wh, _, F_some hF, rfl, rfl⟩
                  ·
                    refine WP_skip ?_
                    refine C_seq ?_
                    refine C_reg (mdl []) ?_
                    refine S_m (v := .int _ _) rfl ?_
                    refine S_bin rfl rfl (ev_geq ..) ?_
                    refine S_m (v := .bool _) rfl ?_
                    refine S_two (b := (decide ((65536 : Int) ≤ p0))) 3 82 (.bool ((decide ((65536 : Int) ≤ p0)) && (decide (p0 ≤ (983039 : Int))))) (fun hb38 => ?_) (fun hb38 => ?_) ?_
                    ·
                      refine S_on rfl rfl hb38 ?_
                      refine S_in ?_
                      refine S_m (v := .int _ _) rfl ?_
                      refine S_nil ?_
                      refine S_on rfl rfl hb38 ?_
                      refine S_in ?_
                      refine S_bin rfl rfl (ev_leq ..) ?_
                      refine S_nil ?_
                      refine S_pickT (v := .bool _) rfl hb38 rfl ?_
                      refine S_nil ?_
                      refine .hd (and_t hb38) ?_
                      repeat (first | with_reducible exact WS.refl _ | refine WS.add ?_ rfl)
                    ·
                      refine S_off rfl rfl hb38 ?_
                      refine S_offD ?_
                      refine S_off rfl rfl hb38 ?_
                      refine S_offD ?_
                      refine S_pickF (v := .bool _) rfl hb38 rfl ?_
                      refine S_nil ?_
                      refine .hd (and_f hb38) ?_
                      repeat (first | with_reducible exact WS.refl _ | refine WS.add ?_ rfl)
                    refine S_a (v := .bool _) rfl ?_
                    refine S_nil ?_
                    refine WP_ret ?_
                    repeat (first | with_reducible refine Exit.sel_ret ?_ | with_reducible refine Exit.blk_ret ?_)
                    refine C_ret (fn := Tryd.f56) rfl (.tmp (v := .bool ((decide ((65536 : Int) ≤ p0)) && (decide (p0 ≤ (983039 : Int))))) rfl .nil) ?_
                    exact ⟨_, _, (.refl _), ok.wh, _, F_some hF, rfl, rfl⟩
theorem F_lecternref01_Start_ok {β : Type} {f : Bool → Option β} {G : β → Prop} {R : D → Heap → Prop} {p0 : Int} (h : Heap) (hF : OptP ((F_lecternref01_Start p0).bind f) G) (hk : ∀ r, F_lecternref01_Start p0 = some r → OptP (f r) G → R (.bool r) h) : CallsA Tryd.prog 56 [.int .i64 p0] h R := by
  obtain ⟨r0, hr, hF⟩ := F_bind hF
  refine (F_lecternref01_Start_w (G := fun r => r = r0) p0 h ⟨r0, hr, rfl⟩).mono ?_
  rintro _ _ ⟨r, rfl, rfl, rfl⟩
  exact hk _ hr hF
theorem F_lecternref01_Part_w (p0 : Int) {G : Bool → Prop} (h : Heap) (hF : OptP (F_lecternref01_Part p0) G) : CallsA Tryd.prog 55 [.int .i64 p0] h fun d h' => ∃ r, G r ∧ d = .bool r ∧ h' = h := by
  refine CallsA.ret ?_
  refine C_body Tryd.func55 rfl en_55 Tryd.ntmps55 rfl (fun ok => ?_)
  rw [F_lecternref01_Part] at hF
  refine C_seq ?_
  refine C_reg (mdl []) ?_
  refine S_a (v := .bool _) rfl ?_
  refine S_nil ?_
  refine C_seq ?_
  refine C_reg (mdl []) ?_
  refine S_m (v := .int _ _) rfl ?_
  refine S_call (F_lecternref01_Start_ok _ hF fun x1 _ hF => ?_) (.cons (.refl _) (.nil))
  refine S_m (v := .bool _) rfl ?_
  refine S_two (b := x1) 3 8 (.bool (x1 || (p0 == (45 : Int)))) (fun hb2 => ?_) (fun hb2 => ?_) ?_
  ·
    refine S_off rfl rfl hb2 ?_
    refine S_offD ?_
    refine S_off rfl rfl hb2 ?_
    refine S_offD ?_
    refine S_pickT (v := .bool _) rfl hb2 rfl ?_
    refine S_nil ?_
    refine .hd (or_t hb2) ?_
    repeat (first | with_reducible exact WS.refl _ | refine WS.add ?_ rfl)
  ·
    refine S_on rfl rfl hb2 ?_
    refine S_in ?_
    refine S_m (v := .int _ _) rfl ?_
    refine S_nil ?_
    refine S_on rfl rfl hb2 ?_
    refine S_in ?_
    refine S_bin rfl rfl (ev_eql ..) ?_
    refine S_nil ?_
    refine S_pickF (v := .bool _) rfl hb2 rfl ?_
    refine S_nil ?_
    refine .hd (or_f hb2) ?_
    repeat (first | with_reducible exact WS.refl _ | refine WS.add ?_ rfl)
  refine S_m (v := .bool _) rfl ?_
  refine S_two (b := (x1 || (p0 == (45 : Int)))) 3 12 (.bool ((x1 || (p0 == (45 : Int))) || (p0 == (46 : Int)))) (fun hb3 => ?_) (fun hb3 => ?_) ?_
  ·
    refine S_off rfl rfl hb3 ?_
    refine S_offD ?_
    refine S_off rfl rfl hb3 ?_
    refine S_offD ?_
    refine S_pickT (v := .bool _) rfl hb3 rfl ?_
    refine S_nil ?_
    refine .hd (or_t hb3) ?_
    repeat (first | with_reducible exact WS.refl _ | refine WS.add ?_ rfl)
  ·
    refine S_on rfl rfl hb3 ?_
    refine S_in ?_
    refine S_m (v := .int _ _) rfl ?_
    refine S_nil ?_
    refine S_on rfl rfl hb3 ?_
    refine S_in ?_
    refine S_bin rfl rfl (ev_eql ..) ?_
    refine S_nil ?_
    refine S_pickF (v := .bool _) rfl hb3 rfl ?_
    refine S_nil ?_
    refine .hd (or_f hb3) ?_
    repeat (first | with_reducible exact WS.refl _ | refine WS.add ?_ rfl)
  refine S_m (v := .bool _) rfl ?_
  refine S_two (b := ((x1 || (p0 == (45 : Int))) || (p0 == (46 : Int)))) 7 20 (.bool (((x1 || (p0 == (45 : Int))) || (p0 == (46 : Int))) || ((decide ((48 : Int) ≤ p0)) && (decide (p0 ≤ (57 : Int)))))) (fun hb4 => ?_) (fun hb4 => ?_) ?_
  ·
    refine S_off rfl rfl hb4 ?_
    refine S_offD ?_
    refine S_off rfl rfl hb4 ?_
    refine S_offD ?_
    refine S_off rfl rfl hb4 ?_
    refine S_offD ?_
    refine S_off2 rfl rfl ?_
    refine S_offD ?_
    refine S_off2 rfl rfl ?_
    refine S_offD ?_
    refine S_off rfl rfl hb4 ?_
    refine S_offD ?_
    refine S_pickT (v := .bool _) rfl hb4 rfl ?_
    refine S_nil ?_
    refine .hd (or_t hb4) ?_
    repeat (first | with_reducible exact WS.refl _ | refine WS.add ?_ rfl)
  ·
    refine S_on rfl rfl hb4 ?_
    refine S_in ?_
    refine S_m (v := .int _ _) rfl ?_
    refine S_nil ?_
    refine S_on rfl rfl hb4 ?_
    refine S_in ?_
    refine S_bin rfl rfl (ev_geq ..) ?_
    refine S_nil ?_
    refine S_on rfl rfl hb4 ?_
    refine S_in ?_
    refine S_m (v := .bool _) rfl ?_
    refine S_nil ?_
    refine S_two (b := (decide ((48 : Int) ≤ p0))) 3 19 (.bool ((decide ((48 : Int) ≤ p0)) && (decide (p0 ≤ (57 : Int))))) (fun hb6 => ?_) (fun hb6 => ?_) ?_
    ·
      refine S_on rfl rfl hb6 ?_
      refine S_in ?_
      refine S_m (v := .int _ _) rfl ?_
      refine S_nil ?_
      refine S_on rfl rfl hb6 ?_
      refine S_in ?_
      refine S_bin rfl rfl (ev_leq ..) ?_
      refine S_nil ?_
      refine S_on rfl rfl hb4 ?_
      refine S_in ?_
      refine S_pickT (v := .bool _) rfl hb6 rfl ?_
      refine S_nil ?_
      refine S_nil ?_
      refine .hd (and_t hb6) ?_
      repeat (first | with_reducible exact WS.refl _ | refine WS.add ?_ rfl)
    ·
      refine S_off rfl rfl hb6 ?_
      refine S_offD ?_
      refine S_off rfl rfl hb6 ?_
      refine S_offD ?_
      refine S_on rfl rfl hb4 ?_
      refine S_in ?_
      refine S_pickF (v := .bool _) rfl hb6 rfl ?_
      refine S_nil ?_
      refine S_nil ?_
      refine .hd (and_f hb6) ?_
      repeat (first | with_reducible exact WS.refl _ | refine WS.add ?_ rfl)
    refine S_pickF (v := .bool _) rfl hb4 rfl ?_
    refine S_nil ?_
    refine .hd (or_f hb4) ?_
    repeat (first | with_reducible exact WS.refl _ | refine WS.add ?_ rfl)
  refine S_m (v := .bool _) rfl ?_
  refine S_two (b := (((x1 || (p0 == (45 : Int))) || (p0 == (46 : Int))) || ((decide ((48 : Int) ≤ p0)) && (decide (p0 ≤ (57 : Int)))))) 3 24 (.bool ((((x1 || (p0 == (45 : Int))) || (p0 == (46 : Int))) || ((decide ((48 : Int) ≤ p0)) && (decide (p0 ≤ (57 : Int))))) || (p0 == (183 : Int)))) (fun hb7 => ?_) (fun hb7 => ?_) ?_
  ·
    refine S_off rfl rfl hb7 ?_
    refine S_offD ?_
    refine S_off rfl rfl hb7 ?_
    refine S_offD ?_
    refine S_pickT (v := .bool _) rfl hb7 rfl ?_
    refine S_nil ?_
    refine .hd (or_t hb7) ?_
    repeat (first | with_reducible exact WS.refl _ | refine WS.add ?_ rfl)
  ·
    refine S_on rfl rfl hb7 ?_
    refine S_in ?_
    refine S_m (v := .int _ _) rfl ?_
    refine S_nil ?_
    refine S_on rfl rfl hb7 ?_
    refine S_in ?_
    refine S_bin rfl rfl (ev_eql ..) ?_
    refine S_nil ?_
    refine S_pickF (v := .bool _) rfl hb7 rfl ?_
    refine S_nil ?_
    refine .hd (or_f hb7) ?_
    repeat (first | with_reducible exact WS.refl _ | refine WS.add ?_ rfl)
  refine S_m (v := .bool _) rfl ?_
  refine S_two (b := ((((x1 || (p0 == (45 : Int))) || (p0 == (46 : Int))) || ((decide ((48 : Int) ≤ p0)) && (decide (p0 ≤ (57 : Int))))) || (p0 == (183 : Int)))) 7 32 (.bool (((((x1 || (p0 == (45 : Int))) || (p0 == (46 : Int))) || ((decide ((48 : Int) ≤ p0)) && (decide (p0 ≤ (57 : Int))))) || (p0 == (183 : Int))) || ((decide ((768 : Int) ≤ p0)) && (decide (p0 ≤ (879 : Int)))))) (fun hb8 => ?_) (fun hb8 => ?_) ?_
  ·
    refine S_off rfl rfl hb8 ?_
    refine S_offD ?_
    refine S_off rfl rfl hb8 ?_
    refine S_offD ?_
    refine S_off rfl rfl hb8 ?_
    refine S_offD ?_
    refine S_off2 rfl rfl ?_
    refine S_offD ?_
    refine S_off2 rfl rfl ?_
    refine S_offD ?_
    refine S_off rfl rfl hb8 ?_
    refine S_offD ?_
    refine S_pickT (v := .bool _) rfl hb8 rfl ?_
    refine S_nil ?_
    refine .hd (or_t hb8) ?_
    repeat (first | with_reducible exact WS.refl _ | refine WS.add ?_ rfl)
  ·
    refine S_on rfl rfl hb8 ?_
    refine S_in ?_
    refine S_m (v := .int _ _) rfl ?_
    refine S_nil ?_
    refine S_on rfl rfl hb8 ?_
    refine S_in ?_
    refine S_bin rfl rfl (ev_geq ..) ?_
    refine S_nil ?_
    refine S_on rfl rfl hb8 ?_
    refine S_in ?_
    refine S_m (v := .bool _) rfl ?_
    refine S_nil ?_
    refine S_two (b := (decide ((768 : Int) ≤ p0))) 3 31 (.bool ((decide ((768 : Int) ≤ p0)) && (decide (p0 ≤ (879 : Int))))) (fun hb10 => ?_) (fun hb10 => ?_) ?_
    ·
      refine S_on rfl rfl hb10 ?_
      refine S_in ?_
      refine S_m (v := .int _ _) rfl ?_
      refine S_nil ?_
      refine S_on rfl rfl hb10 ?_
      refine S_in ?_
      refine S_bin rfl rfl (ev_leq ..) ?_
      refine S_nil ?_
      refine S_on rfl rfl hb8 ?_
      refine S_in ?_
      refine S_pickT (v := .bool _) rfl hb10 rfl ?_
      refine S_nil ?_
      refine S_nil ?_
      refine .hd (and_t hb10) ?_
      repeat (first | with_reducible exact WS.refl _ | refine WS.add ?_ rfl)
    ·
      refine S_off rfl rfl hb10 ?_
      refine S_offD ?_
      refine S_off rfl rfl hb10 ?_
      refine S_offD ?_
      refine S_on rfl rfl hb8 ?_
      refine S_in ?_
      refine S_pickF (v := .bool _) rfl hb10 rfl ?_
      refine S_nil ?_
      refine S_nil ?_
      refine .hd (and_f hb10) ?_
      repeat (first | with_reducible exact WS.refl _ | refine WS.add ?_ rfl)
    refine S_pickF (v := .bool _) rfl hb8 rfl ?_
    refine S_nil ?_
    refine .hd (or_f hb8) ?_
    repeat (first | with_reducible exact WS.refl _ | refine WS.add ?_ rfl)
  refine S_m (v := .bool _) rfl ?_
  refine S_two (b := (((((x1 || (p0 == (45 : Int))) || (p0 == (46 : Int))) || ((decide ((48 : Int) ≤ p0)) && (decide (p0 ≤ (57 : Int))))) || (p0 == (183 : Int))) || ((decide ((768 : Int) ≤ p0)) && (decide (p0 ≤ (879 : Int)))))) 3 36 (.bool ((((((x1 || (p0 == (45 : Int))) || (p0 == (46 : Int))) || ((decide ((48 : Int) ≤ p0)) && (decide (p0 ≤ (57 : Int))))) || (p0 == (183 : Int))) || ((decide ((768 : Int) ≤ p0)) && (decide (p0 ≤ (879 : Int))))) || (p0 == (8255 : Int)))) (fun hb11 => ?_) (fun hb11 => ?_) ?_
  ·
    refine S_off rfl rfl hb11 ?_
    refine S_offD ?_
    refine S_off rfl rfl hb11 ?_
    refine S_offD ?_
    refine S_pickT (v := .bool _) rfl hb11 rfl ?_
    refine S_nil ?_
    refine .hd (or_t hb11) ?_
    repeat (first | with_reducible exact WS.refl _ | refine WS.add ?_ rfl)
  ·
    refine S_on rfl rfl hb11 ?_
    refine S_in ?_
    refine S_m (v := .int _ _) rfl ?_
    refine S_nil ?_
    refine S_on rfl rfl hb11 ?_
    refine S_in ?_
    refine S_bin rfl rfl (ev_eql ..) ?_
    refine S_nil ?_
    refine S_pickF (v := .bool _) rfl hb11 rfl ?_
    refine S_nil ?_
    refine .hd (or_f hb11) ?_
    repeat (first | with_reducible exact WS.refl _ | refine WS.add ?_ rfl)
  refine S_m (v := .bool _) rfl ?_
  refine S_two (b := ((((((x1 || (p0 == (45 : Int))) || (p0 == (46 : Int))) || ((decide ((48 : Int) ≤ p0)) && (decide (p0 ≤ (57 : Int))))) || (p0 == (183 : Int))) || ((decide ((768 : Int) ≤ p0)) && (decide (p0 ≤ (879 : Int))))) || (p0 == (8255 : Int)))) 3 40 (.bool (((((((x1 || (p0 == (45 : Int))) || (p0 == (46 : Int))) || ((decide ((48 : Int) ≤ p0)) && (decide (p0 ≤ (57 : Int))))) || (p0 == (183 : Int))) || ((decide ((768 : Int) ≤ p0)) && (decide (p0 ≤ (879 : Int))))) || (p0 == (8255 : Int))) || (p0 == (8256 : Int)))) (fun hb12 => ?_) (fun hb12 => ?_) ?_
  ·
    refine S_off rfl rfl hb12 ?_
    refine S_offD ?_
    refine S_off rfl rfl hb12 ?_
    refine S_offD ?_
    refine S_pickT (v := .bool _) rfl hb12 rfl ?_
    refine S_nil ?_
    refine .hd (or_t hb12) ?_
    repeat (first | with_reducible exact WS.refl _ | refine WS.add ?_ rfl)
  ·
    refine S_on rfl rfl hb12 ?_
    refine S_in ?_
    refine S_m (v := .int _ _) rfl ?_
    refine S_nil ?_
    refine S_on rfl rfl hb12 ?_
    refine S_in ?_
    refine S_bin rfl rfl (ev_eql ..) ?_
    refine S_nil ?_
    refine S_pickF (v := .bool _) rfl hb12 rfl ?_
    refine S_nil ?_
    refine .hd (or_f hb12) ?_
    repeat (first | with_reducible exact WS.refl _ | refine WS.add ?_ rfl)
  refine S_a (v := .bool _) rfl ?_
  refine S_nil ?_
  refine WP_ret ?_
  repeat (first | with_reducible refine Exit.sel_ret ?_ | with_reducible refine Exit.blk_ret ?_)
  refine C_ret (fn := Tryd.f55) rfl (.tmp (v := .bool (((((((x1 || (p0 == (45 : Int))) || (p0 == (46 : Int))) || ((decide ((48 : Int) ≤ p0)) && (decide (p0 ≤ (57 : Int))))) || (p0 == (183 : Int))) || ((decide ((768 : Int) ≤ p0)) && (decide (p0 ≤ (879 : Int))))) || (p0 == (8255 : Int))) || (p0 == (8256 : Int)))) rfl .nil) ?_
  exact ⟨_, _, (.refl _), ok.wh, _, F_some hF, rfl, rfl⟩
theorem F_lecternref01_Part_ok {β : Type} {f : Bool → Option β} {G : β → Prop} {R : D → Heap → Prop} {p0 : Int} (h : Heap) (hF : OptP ((F_lecternref01_Part p0).bind f) G) (hk : ∀ r, F_lecternref01_Part p0 = some r → OptP (f r) G → R (.bool r) h) : CallsA Tryd.prog 55 [.int .i64 p0] h R := by
  obtain ⟨r0, hr, hF⟩ := F_bind hF
  refine (F_lecternref01_Part_w (G := fun r => r = r0) p0 h ⟨r0, hr, rfl⟩).mono ?_
  rintro _ _ ⟨r, rfl, rfl, rfl⟩
  exact hk _ hr hF
theorem F_lecternref01_Name_w (p0 : List UInt8) {G : Bool → Prop} (h : Heap) (hF : OptP (F_lecternref01_Name p0) G) : CallsA Tryd.prog 32 [.str p0] h fun d h' => ∃ r, G r ∧ d = .bool r ∧ h' = h := by
  refine CallsA.ret ?_
  refine C_body Tryd.func32 rfl en_32 Tryd.ntmps32 rfl (fun ok => ?_)
  rw [F_lecternref01_Name] at hF
  refine C_seq ?_
  refine C_reg (mdl []) ?_
  refine S_a (v := .bool _) rfl ?_
  refine S_nil ?_
  refine C_seq ?_
  refine C_reg (mdl []) ?_
  refine S_m (v := .str _) rfl ?_
  refine S_byt0 rfl rfl ty_sl_72 ty_st_9 ty_ki_5 ?_
  refine S_a (v := .sl _ _ _) rfl ?_
  refine S_nil ?_
  refine C_seq ?_
  refine C_seq ?_
  refine C_reg (mdl []) ?_
  refine S_m (v := .sl _ _ _) rfl ?_
  refine S_lenL rfl ty_sl_72 ?_
  refine S_bin rfl rfl (ev_eql ..) ?_
  refine S_m (v := .bool _) rfl ?_
  refine S_two (b := ((p0.length : Int) == (0 : Int))) 4 16 (.bool (((p0.length : Int) == (0 : Int)) || (decide ((100 : Int) < (p0.length : Int))))) (fun hb1 => ?_) (fun hb1 => ?_) ?_
  ·
    refine S_off rfl rfl hb1 ?_
    refine S_offD ?_
    refine S_off rfl rfl hb1 ?_
    refine S_offD ?_
    refine S_off rfl rfl hb1 ?_
    refine S_offD ?_
    refine S_pickT (v := .bool _) rfl hb1 rfl ?_
    refine S_nil ?_
    refine .hd (or_t hb1) ?_
    repeat (first | with_reducible exact WS.refl _ | refine WS.add ?_ rfl)
  ·
    refine S_on rfl rfl hb1 ?_
    refine S_in ?_
    refine S_m (v := .sl _ _ _) rfl ?_
    refine S_nil ?_
    refine S_on rfl rfl hb1 ?_
    refine S_in ?_
    refine S_lenL rfl ty_sl_72 ?_
    refine S_nil ?_
    refine S_on rfl rfl hb1 ?_
    refine S_in ?_
    refine S_bin rfl rfl (ev_gtr ..) ?_
    refine S_nil ?_
    refine S_pickF (v := .bool _) rfl hb1 rfl ?_
    refine S_nil ?_
    refine .hd (or_f hb1) ?_
    repeat (first | with_reducible exact WS.refl _ | refine WS.add ?_ rfl)
  refine S_nil ?_
  refine C_if (b := (((p0.length : Int) == (0 : Int)) || (decide ((100 : Int) < (p0.length : Int))))) rfl hF (fun hb2 hF => ?_) (fun hb2 hF => ?_)
  ·
    refine C_seq ?_
    refine C_reg (mdl []) ?_
    refine S_a (v := .bool _) rfl ?_
    refine S_nil ?_
    refine WP_ret ?_
    repeat (first | with_reducible refine Exit.sel_ret ?_ | with_reducible refine Exit.blk_ret ?_)
    refine C_ret (fn := Tryd.f32) rfl (.tmp (v := .bool false) rfl .nil) ?_
    exact ⟨_, _, (.refl _), ok.wh, _, F_some hF, rfl, rfl⟩
  ·
    refine WP_skip ?_
    refine C_join hF (fun (_ : Unit) s' => OK h [] ∧ WS s' ⟨mkSl 46 [], Hp h []⟩) (fun J18 hF => ?_) ?_
    ·
      refine C_seq ?_
      refine C_reg (mdl []) ?_
      refine S_a (v := .int _ _) rfl ?_
      refine S_nil ?_
      refine WP_block ?_
      refine C_loop (σ := Int) hF (fun (a19 : Int) s' => OK h [] ∧ WS s' ⟨mkSl 46 [(3, .sl 1 (List.map c_u8 p0) 0), (4, .int .i64 a19)], Hp h []⟩) ?_ ?_
      ·
        have hwo : WO [] [] := .nil
        exact ⟨(hwo.spec ok).1, WS.mk' (.cons (.refl _) (.cons (.refl _) .nil)) ok hwo⟩
      ·
        rintro G20 hG21 rec22 a19 s' ih23 hF ⟨ok, hws⟩
        refine WP_ws hws ?_
        clear hws s'
        rw [F_lecternref01_Name_l0] at hF
        refine C_seq ?_
        refine C_seq ?_
        refine C_reg (mdl []) ?_
        refine S_m (v := .int _ _) rfl ?_
        refine S_m (v := .sl _ _ _) rfl ?_
        refine S_lenL rfl ty_sl_72 ?_
        refine S_bin rfl rfl (ev_lss ..) ?_
        refine S_nil ?_
        refine C_if (b := (decide (a19 < (p0.length : Int)))) rfl hF (fun hb24 hF => ?_) (fun hb24 hF => ?_)
        ·
          refine WP_skip ?_
          refine WP_block ?_
          refine C_seq ?_
          refine C_reg (mdl []) ?_
          refine S_m (v := .sl _ _ _) rfl ?_
          refine S_m (v := .int _ _) rfl ?_
          refine S_call (F_lecternref01_Read_ok _ hF fun x25 _ hF => ?_) (.cons (.refl _) (.cons (.refl _) (.nil)))
          refine S_m (v := .tup _) rfl ?_
          refine S_ext rfl rfl ?_
          refine S_ext rfl rfl ?_
          refine S_a (v := .int _ _) rfl ?_
          refine S_a (v := .int _ _) rfl ?_
          refine S_nil ?_
          refine C_seq ?_
          refine C_seq ?_
          refine C_reg (mdl []) ?_
          refine S_m (v := .int _ _) rfl ?_
          refine S_bin rfl rfl (ev_eql ..) ?_
          refine S_m (v := .bool _) rfl ?_
          refine S_twoJ 4 33 hF (fun J27 hb26 hF => ?_) (fun J27 hb26 hF => ?_) (fun v28 hF => ?_)
          ·
            refine S_off rfl rfl hb26 ?_
            refine S_offD ?_
            refine S_off rfl rfl hb26 ?_
            refine S_offD ?_
            refine S_off rfl rfl hb26 ?_
            refine S_offD ?_
            refine S_pickT (v := .bool _) rfl hb26 rfl ?_
            refine S_nil ?_
            refine ⟨_, hF, .hd (.refl _) ?_⟩
            repeat (first | with_reducible exact WS.refl _ | refine WS.add ?_ rfl)
          ·
            refine S_on rfl rfl hb26 ?_
            refine S_in ?_
            refine S_m (v := .int _ _) rfl ?_
            refine S_nil ?_
            refine S_on rfl rfl hb26 ?_
            refine S_in ?_
            refine S_call (F_lecternref01_Part_ok _ hF fun x29 _ hF => ?_) (.cons (.refl _) (.nil))
            refine S_nil ?_
            refine S_on rfl rfl hb26 ?_
            refine S_in ?_
            refine S_un rfl (ev_not _) ?_
            refine S_nil ?_
            refine S_pickF (v := .bool _) rfl hb26 rfl ?_
            refine S_nil ?_
            refine ⟨_, hF, .hd (.refl _) ?_⟩
            repeat (first | with_reducible exact WS.refl _ | refine WS.add ?_ rfl)
          ·
            refine S_m (v := .bool _) rfl ?_
            refine S_twoJ 8 42 hF (fun J31 hb30 hF => ?_) (fun J31 hb30 hF => ?_) (fun v32 hF => ?_)
            ·
              refine S_off rfl rfl hb30 ?_
              refine S_offD ?_
              refine S_off rfl rfl hb30 ?_
              refine S_offD ?_
              refine S_off rfl rfl hb30 ?_
              refine S_offD ?_
              refine S_off2 rfl rfl ?_
              refine S_offD ?_
              refine S_off2 rfl rfl ?_
              refine S_offD ?_
              refine S_off2 rfl rfl ?_
              refine S_offD ?_
              refine S_off rfl rfl hb30 ?_
              refine S_offD ?_
              refine S_pickT (v := .bool _) rfl hb30 rfl ?_
              refine S_nil ?_
              refine ⟨_, hF, .hd (.refl _) ?_⟩
              repeat (first | with_reducible exact WS.refl _ | refine WS.add ?_ rfl)
            ·
              refine S_on rfl rfl hb30 ?_
              refine S_in ?_
              refine S_m (v := .int _ _) rfl ?_
              refine S_nil ?_
              refine S_on rfl rfl hb30 ?_
              refine S_in ?_
              refine S_bin rfl rfl (ev_eql ..) ?_
              refine S_nil ?_
              refine S_on rfl rfl hb30 ?_
              refine S_in ?_
              refine S_m (v := .bool _) rfl ?_
              refine S_nil ?_
              refine S_twoJ 4 41 hF (fun J34 hb33 hF => ?_) (fun J34 hb33 hF => ?_) (fun v35 hF => ?_)
              ·
                refine S_on rfl rfl hb33 ?_
                refine S_in ?_
                refine S_m (v := .int _ _) rfl ?_
                refine S_nil ?_
                refine S_on rfl rfl hb33 ?_
                refine S_in ?_
                refine S_call (F_lecternref01_Start_ok _ hF fun x36 _ hF => ?_) (.cons (.refl _) (.nil))
                refine S_nil ?_
                refine S_on rfl rfl hb33 ?_
                refine S_in ?_
                refine S_un rfl (ev_not _) ?_
                refine S_nil ?_
                refine S_on rfl rfl hb30 ?_
                refine S_in ?_
                refine S_pickT (v := .bool _) rfl hb33 rfl ?_
                refine S_nil ?_
                refine S_nil ?_
                refine ⟨_, hF, .hd (.refl _) ?_⟩
                repeat (first | with_reducible exact WS.refl _ | refine WS.add ?_ rfl)
              ·
                refine S_off rfl rfl hb33 ?_
                refine S_offD ?_
                refine S_off rfl rfl hb33 ?_
                refine S_offD ?_
                refine S_off rfl rfl hb33 ?_
                refine S_offD ?_
                refine S_on rfl rfl hb30 ?_
                refine S_in ?_
                refine S_pickF (v := .bool _) rfl hb33 rfl ?_
                refine S_nil ?_
                refine S_nil ?_
                refine ⟨_, hF, .hd (.refl _) ?_⟩
                repeat (first | with_reducible exact WS.refl _ | refine WS.add ?_ rfl)
              ·
                refine S_pickF (v := .bool _) rfl hb30 rfl ?_
                refine S_nil ?_
                refine ⟨_, hF, .hd (.refl _) ?_⟩
                repeat (first | with_reducible exact WS.refl _ | refine WS.add ?_ rfl)
            ·
              refine S_nil ?_
              refine C_if (b := v32) rfl hF (fun hb37 hF => ?_) (fun hb37 hF => ?_)
              ·
                refine C_seq ?_
                refine C_reg (mdl []) ?_
                refine S_a (v := .bool _) rfl ?_
                refine S_nil ?_
                refine WP_ret ?_
                replace hF := hG21 _ (F_some hF)
                repeat (first | with_reducible refine Exit.sel_ret ?_ | with_reducible refine Exit.blk_ret ?_)
                refine C_ret (fn := Tryd.f32) rfl (.tmp (v := .bool false) rfl .nil) ?_
                exact ⟨_, _, (.refl _), ok.wh, _, F_some hF, rfl, rfl⟩
              ·
                refine WP_skip ?_
                refine C_reg (mdl []) ?_
                refine S_m (v := .int _ _) rfl ?_
                refine S_m (v := .int _ _) rfl ?_
                refine S_bin rfl rfl (ev_add ..) ?_
                refine S_a (v := .int _ _) rfl ?_
                refine S_nil ?_
                refine ih23 (IntKind.wrap .i64 (a19 + x25.2)) _ hF ?_
                have hwo : WO [] [] := .nil
                exact ⟨(hwo.spec ok).1, WS.mk' (.cons (.refl _) (.cons (.refl _) .nil)) ok hwo⟩
        ·
          refine WP_exit ?_
          simp only [Exit.sel, Exit.blk, if_true, if_false, reduceIte, Nat.reduceEqDiff, Nat.succ_ne_zero, Nat.zero_ne_one, Nat.one_ne_zero]
          replace hF := hG21 _ (F_some hF)
          have hwo : WO [] [] := .nil
          exact ⟨(), hF, (hwo.spec ok).1, WS.mk' .nil ok hwo⟩
    ·
      rintro ⟨⟩ s' hF ⟨ok, hws⟩
      refine WP_ws hws ?_
      clear hws s'
      refine C_seq ?_
      refine C_reg (mdl []) ?_
      refine S_a (v := .bool _) rfl ?_
      refine S_nil ?_
      refine WP_ret ?_
      repeat (first | with_reducible refine Exit.sel_ret ?_ | with_reducible refine Exit.blk_ret ?_)
      refine C_ret (fn := Tryd.f32) rfl (.tmp (v := .bool true) rfl .nil) ?_
      exact ⟨_, _, (.refl _), ok.wh, _, F_some hF, rfl, rfl⟩
theorem F_lecternref01_Name_ok {β : Type} {f : Bool → Option β} {G : β → Prop} {R : D → Heap → Prop} {p0 : List UInt8} (h : Heap) (hF : OptP ((F_lecternref01_Name p0).bind f) G) (hk : ∀ r, F_lecternref01_Name p0 = some r → OptP (f r) G → R (.bool r) h) : CallsA Tryd.prog 32 [.str p0] h R := by
  obtain ⟨r0, hr, hF⟩ := F_bind hF
  refine (F_lecternref01_Name_w (G := fun r => r = r0) p0 h ⟨r0, hr, rfl⟩).mono ?_
  rintro _ _ ⟨r, rfl, rfl, rfl⟩
  exact hk _ hr hF
theorem F_lecternref08_Right_w (p0 : T_trail_Trail) {G : Bool → Prop} (h : Heap) (hF : OptP (F_lecternref08_Right p0) G) : CallsA Tryd.prog 12 [.agg (c_T_trail_Trail p0)] h fun d h' => ∃ r, G r ∧ d = .bool r ∧ h' = h := by
  refine CallsA.ret ?_
  refine C_body Tryd.func12 rfl en_12 Tryd.ntmps12 rfl (fun ok => ?_)
  rw [F_lecternref08_Right] at hF
  refine C_seq ?_
  refine C_reg (mdl []) ?_
  refine S_box0 rfl rfl rfl rfl ?_
  refine S_a (v := .bool _) rfl ?_
  refine S_nil ?_
  refine C_seq ?_
  refine C_seq ?_
  refine C_reg (mdl []) ?_
  refine S_faQ rfl ty_fd_34_0 ty_sz_22 rfl ?_
  refine S_ldQ rfl (p_one ty_ag_22 ty_sz_22 rfl) ?_
  refine S_lenL rfl ty_sl_22 ?_
  refine S_bin rfl rfl (ev_gtr ..) ?_
  refine S_nil ?_
  refine C_if (b := (decide ((64 : Int) < (p0.Steps.length : Int)))) rfl hF (fun hb1 hF => ?_) (fun hb1 hF => ?_)
  ·
    refine C_seq ?_
    refine C_reg (mdl []) ?_
    refine S_a (v := .bool _) rfl ?_
    refine S_nil ?_
    refine WP_ret ?_
    repeat (first | with_reducible refine Exit.sel_ret ?_ | with_reducible refine Exit.blk_ret ?_)
    refine C_ret (fn := Tryd.f12) rfl (.tmp (v := .bool false) rfl .nil) ?_
    exact ⟨_, _, (.refl _), ok.wh, _, F_some hF, rfl, rfl⟩
  ·
    refine WP_skip ?_
    refine C_join hF (fun (_ : Unit) s' => OK h [] ∧ WS s' ⟨mkSl 55 [(1, .iptr (c_T_trail_Trail p0))], Hp h []⟩) (fun J7 hF => ?_) ?_
    ·
      refine C_seq ?_
      refine C_reg (mdl []) ?_
      refine S_faQ rfl ty_fd_34_0 ty_sz_22 rfl ?_
      refine S_ldQ rfl (p_one ty_ag_22 ty_sz_22 rfl) ?_
      refine S_lenL rfl ty_sl_22 ?_
      refine S_m (v := .int _ _) rfl ?_
      refine S_nil ?_
      refine WP_block ?_
      refine C_loop (σ := Int) hF (fun (a8 : Int) s' => OK h [] ∧ WS s' ⟨mkSl 55 [(1, .iptr (c_T_trail_Trail p0)), (12, .sl 1 (List.map c_i64 p0.Steps) 0), (13, .int .i64 (p0.Steps.length : Int)), (14, .int .i64 a8)], Hp h []⟩) ?_ ?_
      ·
        have hwo : WO [] [] := .nil
        exact ⟨(hwo.spec ok).1, WS.mk' (.cons (.refl _) (.cons (.refl _) (.cons (.refl _) (.cons (.refl _) .nil)))) ok hwo⟩
      ·
        rintro G9 hG10 rec11 a8 s' ih12 hF ⟨ok, hws⟩
        refine WP_ws hws ?_
        clear hws s'
        rw [F_lecternref08_Right_l0] at hF
        refine C_seq ?_
        refine C_reg (mdl []) ?_
        refine S_bin rfl rfl (ev_lss ..) ?_
        refine S_nil ?_
        refine C_seq ?_
        refine C_if (b := (decide (a8 < (p0.Steps.length : Int)))) rfl hF (fun hb13 hF => ?_) (fun hb13 hF => ?_)
        ·
          refine WP_skip ?_
          refine C_seq ?_
          refine WP_block ?_
          refine C_seq ?_
          refine C_reg (mdl []) ?_
          refine S_ix rfl rfl ty_sl_22 ty_sz_3 hF (fun x14 _ hF => ?_)
          refine S_ldQ rfl (p_one ty_ag_3 ty_sz_3 rfl) ?_
          refine S_a (v := .int _ _) rfl ?_
          refine S_nil ?_
          refine C_seq ?_
          refine C_reg (mdl []) ?_
          refine S_m (v := .int _ _) rfl ?_
          refine S_bin rfl rfl (ev_lss ..) ?_
          refine S_m (v := .bool _) rfl ?_
          refine S_two (b := (decide (x14 < (0 : Int)))) 3 23 (.bool ((decide (x14 < (0 : Int))) || (decide ((999999999 : Int) < x14)))) (fun hb15 => ?_) (fun hb15 => ?_) ?_
          ·
            refine S_off rfl rfl hb15 ?_
            refine S_offD ?_
            refine S_off rfl rfl hb15 ?_
            refine S_offD ?_
            refine S_pickT (v := .bool _) rfl hb15 rfl ?_
            refine S_nil ?_
            refine .hd (or_t hb15) ?_
            repeat (first | with_reducible exact WS.refl _ | refine WS.add ?_ rfl)
          ·
            refine S_on rfl rfl hb15 ?_
            refine S_in ?_
            refine S_m (v := .int _ _) rfl ?_
            refine S_nil ?_
            refine S_on rfl rfl hb15 ?_
            refine S_in ?_
            refine S_bin rfl rfl (ev_gtr ..) ?_
            refine S_nil ?_
            refine S_pickF (v := .bool _) rfl hb15 rfl ?_
            refine S_nil ?_
            refine .hd (or_f hb15) ?_
            repeat (first | with_reducible exact WS.refl _ | refine WS.add ?_ rfl)
          refine S_nil ?_
          refine C_if (b := ((decide (x14 < (0 : Int))) || (decide ((999999999 : Int) < x14)))) rfl hF (fun hb16 hF => ?_) (fun hb16 hF => ?_)
          ·
            refine C_seq ?_
            refine C_reg (mdl []) ?_
            refine S_a (v := .bool _) rfl ?_
            refine S_nil ?_
            refine WP_ret ?_
            replace hF := hG10 _ (F_some hF)
            repeat (first | with_reducible refine Exit.sel_ret ?_ | with_reducible refine Exit.blk_ret ?_)
            refine C_ret (fn := Tryd.f12) rfl (.tmp (v := .bool false) rfl .nil) ?_
            exact ⟨_, _, (.refl _), ok.wh, _, F_some hF, rfl, rfl⟩
          ·
            refine WP_skip ?_
            refine C_reg (mdl []) ?_
            refine S_bin rfl rfl (ev_add ..) ?_
            refine S_m (v := .int _ _) rfl ?_
            refine S_nil ?_
            refine ih12 (IntKind.wrap .i64 (a8 + (1 : Int))) _ hF ?_
            have hwo : WO [] [] := .nil
            exact ⟨(hwo.spec ok).1, WS.mk' (.cons (.refl _) (.cons (.refl _) (.cons (.refl _) (.cons (.refl _) .nil)))) ok hwo⟩
        ·
          refine WP_exit ?_
          simp only [Exit.sel, Exit.blk, if_true, if_false, reduceIte, Nat.reduceEqDiff, Nat.succ_ne_zero, Nat.zero_ne_one, Nat.one_ne_zero]
          replace hF := hG10 _ (F_some hF)
          have hwo : WO [] [] := .nil
          exact ⟨(), hF, (hwo.spec ok).1, WS.mk' (.cons (.refl _) .nil) ok hwo⟩
    ·
      rintro ⟨⟩ s' hF ⟨ok, hws⟩
      refine WP_ws hws ?_
      clear hws s'
      refine C_seq ?_
      refine C_seq ?_
      refine C_reg (mdl []) ?_
      refine S_faQ rfl ty_fd_34_1 ty_sz_4 rfl ?_
      refine S_ldQ rfl (p_one ty_ag_4 ty_sz_4 rfl) ?_
      refine S_un rfl (ev_not _) ?_
      refine S_nil ?_
      refine C_if (b := (!p0.Attr)) rfl hF (fun hb17 hF => ?_) (fun hb17 hF => ?_)
      ·
        refine C_seq ?_
        refine C_reg (mdl []) ?_
        refine S_faQ rfl ty_fd_34_2 ty_sz_24 rfl ?_
        refine S_ldQ rfl (p_agg (vs := c_T_api_Name p0.Name) ty_ag_24 ty_sz_24 rfl rfl) ?_
        refine S_bld (v := .agg (c_T_api_Name (⟨([] : List UInt8), ([] : List UInt8)⟩ : T_api_Name))) (b_st ty_zc_24 ty_pl_24 rfl) ?_
        refine S_bin rfl rfl (e_agg (b := ((p0.Name.URI == (⟨([] : List UInt8), ([] : List UInt8)⟩ : T_api_Name).URI) && ((p0.Name.Local == (⟨([] : List UInt8), ([] : List UInt8)⟩ : T_api_Name).Local) && true))) ty_qg_24 ty_sf_24 (by simp only [c_T_api_Name, ev_eqF_cons, ev_eqF_nil, ev_part, ty_sf_24, ty_qg_24, ty_ag_9, ty_sz_9, ty_st_9, ty_ag_9, ty_sz_9, ty_st_9, ev_eq_int, ev_eq_str, ev_eq_bool, ev_eq_agg, ev_eq_int2, ev_eq_str2, ev_eq_bool2, List.drop_zero, List.drop_succ_cons, List.length_cons, List.length_nil, List.take_succ_cons, List.take_zero, Option.isSome_some, if_true, Option.bind_some, Option.map_some, Nat.reduceAdd, Nat.reduceLeDiff])) ?_
        refine S_a (v := .bool _) rfl ?_
        refine S_nil ?_
        refine WP_ret ?_
        repeat (first | with_reducible refine Exit.sel_ret ?_ | with_reducible refine Exit.blk_ret ?_)
        refine C_ret (fn := Tryd.f12) rfl (.tmp (v := .bool ((p0.Name.URI == (⟨([] : List UInt8), ([] : List UInt8)⟩ : T_api_Name).URI) && ((p0.Name.Local == (⟨([] : List UInt8), ([] : List UInt8)⟩ : T_api_Name).Local) && true))) rfl .nil) ?_
        exact ⟨_, _, (.refl _), ok.wh, _, F_some hF, rfl, rfl⟩
      ·
        refine WP_skip ?_
        refine C_seq ?_
        refine C_reg (mdl []) ?_
        refine S_faQ rfl ty_fd_34_2 ty_sz_24 rfl ?_
        refine S_faQ rfl ty_fd_24_0 ty_sz_9 rfl ?_
        refine S_ldQ rfl (p_one ty_ag_9 ty_sz_9 rfl) ?_
        refine S_byt0 rfl rfl ty_sl_72 ty_st_9 ty_ki_5 ?_
        refine S_call (F_lecternref01_Fault_ok _ hF fun x18 _ hF => ?_) (.cons (.refl _) (.nil))
        refine S_m (v := .tup _) rfl ?_
        refine S_ext rfl rfl ?_
        refine S_ext rfl rfl ?_
        refine S_a (v := .int _ _) rfl ?_
        refine S_a (v := .int _ _) rfl ?_
        refine S_nil ?_
        refine C_seq ?_
        refine C_reg (mdl []) ?_
        refine S_faQ rfl ty_fd_34_2 ty_sz_24 rfl ?_
        refine S_faQ rfl ty_fd_24_1 ty_sz_9 rfl ?_
        refine S_ldQ rfl (p_one ty_ag_9 ty_sz_9 rfl) ?_
        refine S_call (F_lecternref01_Name_ok _ hF fun x19 _ hF => ?_) (.cons (.refl _) (.nil))
        refine S_m (v := .bool _) rfl ?_
        refine S_two (b := x19) 6 50 (.bool (x19 && (decide ((p0.Name.URI.length : Int) ≤ (100 : Int))))) (fun hb20 => ?_) (fun hb20 => ?_) ?_
        ·
          refine S_on rfl rfl hb20 ?_
          refine S_in ?_
          refine S_faQ rfl ty_fd_34_2 ty_sz_24 rfl ?_
          refine S_nil ?_
          refine S_on rfl rfl hb20 ?_
          refine S_in ?_
          refine S_faQ rfl ty_fd_24_0 ty_sz_9 rfl ?_
          refine S_nil ?_
          refine S_on rfl rfl hb20 ?_
          refine S_in ?_
          refine S_ldQ rfl (p_one ty_ag_9 ty_sz_9 rfl) ?_
          refine S_nil ?_
          refine S_on rfl rfl hb20 ?_
          refine S_in ?_
          refine S_lenS rfl ty_st_9 ?_
          refine S_nil ?_
          refine S_on rfl rfl hb20 ?_
          refine S_in ?_
          refine S_bin rfl rfl (ev_leq ..) ?_
          refine S_nil ?_
          refine S_pickT (v := .bool _) rfl hb20 rfl ?_
          refine S_nil ?_
          refine .hd (and_t hb20) ?_
          repeat (first | with_reducible exact WS.refl _ | refine WS.add ?_ rfl)
        ·
          refine S_off rfl rfl hb20 ?_
          refine S_offD ?_
          refine S_off rfl rfl hb20 ?_
          refine S_offD ?_
          refine S_off rfl rfl hb20 ?_
          refine S_offD ?_
          refine S_off rfl rfl hb20 ?_
          refine S_offD ?_
          refine S_off rfl rfl hb20 ?_
          refine S_offD ?_
          refine S_pickF (v := .bool _) rfl hb20 rfl ?_
          refine S_nil ?_
          refine .hd (and_f hb20) ?_
          repeat (first | with_reducible exact WS.refl _ | refine WS.add ?_ rfl)
        refine S_m (v := .bool _) rfl ?_
        refine S_two (b := (x19 && (decide ((p0.Name.URI.length : Int) ≤ (100 : Int))))) 3 54 (.bool ((x19 && (decide ((p0.Name.URI.length : Int) ≤ (100 : Int)))) && (x18.2 == (0 : Int)))) (fun hb21 => ?_) (fun hb21 => ?_) ?_
        ·
          refine S_on rfl rfl hb21 ?_
          refine S_in ?_
          refine S_m (v := .int _ _) rfl ?_
          refine S_nil ?_
          refine S_on rfl rfl hb21 ?_
          refine S_in ?_
          refine S_bin rfl rfl (ev_eql ..) ?_
          refine S_nil ?_
          refine S_pickT (v := .bool _) rfl hb21 rfl ?_
          refine S_nil ?_
          refine .hd (and_t hb21) ?_
          repeat (first | with_reducible exact WS.refl _ | refine WS.add ?_ rfl)
        ·
          refine S_off rfl rfl hb21 ?_
          refine S_offD ?_
          refine S_off rfl rfl hb21 ?_
          refine S_offD ?_
          refine S_pickF (v := .bool _) rfl hb21 rfl ?_
          refine S_nil ?_
          refine .hd (and_f hb21) ?_
          repeat (first | with_reducible exact WS.refl _ | refine WS.add ?_ rfl)
        refine S_a (v := .bool _) rfl ?_
        refine S_nil ?_
        refine WP_ret ?_
        repeat (first | with_reducible refine Exit.sel_ret ?_ | with_reducible refine Exit.blk_ret ?_)
        refine C_ret (fn := Tryd.f12) rfl (.tmp (v := .bool ((x19 && (decide ((p0.Name.URI.length : Int) ≤ (100 : Int)))) && (x18.2 == (0 : Int)))) rfl .nil) ?_
        exact ⟨_, _, (.refl _), ok.wh, _, F_some hF, rfl, rfl⟩
theorem F_lecternref08_Right_ok {β : Type} {f : Bool → Option β} {G : β → Prop} {R : D → Heap → Prop} {p0 : T_trail_Trail} (h : Heap) (hF : OptP ((F_lecternref08_Right p0).bind f) G) (hk : ∀ r, F_lecternref08_Right p0 = some r → OptP (f r) G → R (.bool r) h) : CallsA Tryd.prog 12 [.agg (c_T_trail_Trail p0)] h R := by
  obtain ⟨r0, hr, hF⟩ := F_bind hF
  refine (F_lecternref08_Right_w (G := fun r => r = r0) p0 h ⟨r0, hr, rfl⟩).mono ?_
  rintro _ _ ⟨r, rfl, rfl, rfl⟩
  exact hk _ hr hF
theorem F_lecternref08_digits_w (p0 : Int) {G : (List UInt8) → Prop} (h : Heap) (hF : OptP (F_lecternref08_digits p0) G) : CallsA Tryd.prog 33 [.int .i64 p0] h fun d h' => ∃ r, G r ∧ d = .str r ∧ h' = h := by
  refine CallsA.ret ?_
  refine C_body Tryd.func33 rfl en_33 Tryd.ntmps33 rfl (fun ok => ?_)
  rw [F_lecternref08_digits] at hF
  refine C_seq ?_
  refine C_reg (mdl []) ?_
  refine S_a (v := .str ([] : List UInt8)) rfl ?_
  refine S_nil ?_
  refine C_seq ?_
  refine C_reg (mdl []) ?_
  refine S_a (v := .str ([] : List UInt8)) rfl ?_
  refine S_nil ?_
  refine C_join hF (fun (v : Int × (List UInt8)) s' => match v with | (a5, a6) => OK h [] ∧ WS s' ⟨mkSl 23 [(0, .int .i64 a5), (3, .str a6)], Hp h []⟩) (fun J7 hF => ?_) ?_
  ·
    refine WP_block ?_
    refine C_loop (σ := Int × (List UInt8)) hF (fun (v : Int × (List UInt8)) s' => match v with | (a8, a9) => OK h [] ∧ WS s' ⟨mkSl 23 [(0, .int .i64 a8), (3, .str a9)], Hp h []⟩) ?_ ?_
    ·
      have hwo : WO [] [] := .nil
      exact ⟨(hwo.spec ok).1, WS.mk' (.cons (.refl _) (.cons (.refl _) .nil)) ok hwo⟩
    ·
      rintro G10 hG11 rec12 ⟨a8, a9⟩ s' ih13 hF ⟨ok, hws⟩
      refine WP_ws hws ?_
      clear hws s'
      rw [F_lecternref08_digits_l0] at hF
      refine C_seq ?_
      refine C_seq ?_
      refine C_reg (mdl []) ?_
      refine S_m (v := .int _ _) rfl ?_
      refine S_bin rfl rfl (ev_gtr ..) ?_
      refine S_nil ?_
      refine C_if (b := (decide ((9 : Int) < a8))) rfl hF (fun hb14 hF => ?_) (fun hb14 hF => ?_)
      ·
        refine WP_skip ?_
        refine WP_block ?_
        refine C_seq ?_
        refine C_reg (mdl []) ?_
        refine S_m (v := .int _ _) rfl ?_
        refine S_bin rfl rfl (e_rem rfl) ?_
        refine S_bin rfl rfl (ev_add ..) ?_
        refine S_conv rfl (e_ci ty_ki_5 ty_un_3) ?_
        obtain ⟨b15, hb15, hF⟩ := F_bind hF
        replace hb15 := u8_spec hb15
        refine S_lit0 (es := List.map c_u8 [b15]) rfl ty_el_72 rfl rfl (by simp only [List.map_cons, List.map_nil, c_u8, hb15]; rfl) ?_
        refine S_conv rfl (e_cbs ty_sl_72 ty_ki_5 ty_st_9) ?_
        refine S_m (v := .str _) rfl ?_
        refine S_cat rfl rfl hF (fun hF => ?_)
        refine S_a (v := .str _) rfl ?_
        refine S_nil ?_
        refine C_reg (mdl []) ?_
        refine S_m (v := .int _ _) rfl ?_
        refine S_bin rfl rfl (e_quo rfl) ?_
        refine S_a (v := .int _ _) rfl ?_
        refine S_nil ?_
        refine ih13 ((IntKind.wrap .i64 (Int.tdiv a8 (10 : Int))), ([b15] ++ a9)) _ hF ?_
        have hwo : WO [] [] := .nil
        exact ⟨(hwo.spec ok).1, WS.mk' (.cons (.refl _) (.cons (.refl _) .nil)) ok hwo⟩
      ·
        refine WP_exit ?_
        simp only [Exit.sel, Exit.blk, if_true, if_false, reduceIte, Nat.reduceEqDiff, Nat.succ_ne_zero, Nat.zero_ne_one, Nat.one_ne_zero]
        replace hF := hG11 _ (F_some hF)
        have hwo : WO [] [] := .nil
        exact ⟨(a8, a9), hF, (hwo.spec ok).1, WS.mk' (.cons (.refl _) (.cons (.refl _) .nil)) ok hwo⟩
  ·
    rintro ⟨a5, a6⟩ s' hF ⟨ok, hws⟩
    refine WP_ws hws ?_
    clear hws s'
    refine C_seq ?_
    refine C_reg (mdl []) ?_
    refine S_m (v := .int _ _) rfl ?_
    refine S_bin rfl rfl (ev_add ..) ?_
    refine S_conv rfl (e_ci ty_ki_5 ty_un_3) ?_
    obtain ⟨b16, hb16, hF⟩ := F_bind hF
    replace hb16 := u8_spec hb16
    refine S_lit0 (es := List.map c_u8 [b16]) rfl ty_el_72 rfl rfl (by simp only [List.map_cons, List.map_nil, c_u8, hb16]; rfl) ?_
    refine S_conv rfl (e_cbs ty_sl_72 ty_ki_5 ty_st_9) ?_
    refine S_m (v := .str _) rfl ?_
    refine S_cat rfl rfl hF (fun hF => ?_)
    refine S_a (v := .str _) rfl ?_
    refine S_nil ?_
    refine WP_ret ?_
    repeat (first | with_reducible refine Exit.sel_ret ?_ | with_reducible refine Exit.blk_ret ?_)
    refine C_ret (fn := Tryd.f33) rfl (.tmp (v := .str ([b16] ++ a6)) rfl .nil) ?_
    exact ⟨_, _, (.refl _), ok.wh, _, F_some hF, rfl, rfl⟩
theorem F_lecternref08_digits_ok {β : Type} {f : (List UInt8) → Option β} {G : β → Prop} {R : D → Heap → Prop} {p0 : Int} (h : Heap) (hF : OptP ((F_lecternref08_digits p0).bind f) G) (hk : ∀ r, F_lecternref08_digits p0 = some r → OptP (f r) G → R (.str r) h) : CallsA Tryd.prog 33 [.int .i64 p0] h R := by
  obtain ⟨r0, hr, hF⟩ := F_bind hF
  refine (F_lecternref08_digits_w (G := fun r => r = r0) p0 h ⟨r0, hr, rfl⟩).mono ?_
  rintro _ _ ⟨r, rfl, rfl, rfl⟩
  exact hk _ hr hF
end Go.Proofs.YtggnjahdjmncaaaDoor
