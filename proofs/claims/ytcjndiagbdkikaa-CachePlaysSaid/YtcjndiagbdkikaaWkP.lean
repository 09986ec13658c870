/- The walks. No condition. -/
import Derived.Test.YtcjndiagbdkikaaPfP
import Derived.Test.YtcjndiagbdkikaaTcP
set_option linter.unusedVariables false
set_option linter.unusedSimpArgs false
set_option maxRecDepth 20000
set_option maxHeartbeats 8000000
namespace Go.Proofs.Ytcjndiagbdkikaa
theorem F_lecternref16_Cache_find_w (p0 : T_lecternref16_Cache) (p1 : Int) (q0 : Nat) (b0_1 : Nat) {G : Int → Prop} (h : Heap) (O : List (Nat × AObj)) (hq0 : q0 ≠ 0) (zb0_1 : b0_1 = 0 → p0.L = []) (ok : OK h ((q0, .cells [.int .i64 p0.Places, mslO 4 b0_1 p0.L]) :: mo b0_1 c_T_lecternref16_Entry p0.L :: O)) (hF : OptP (F_lecternref16_Cache_find p0 p1) G) : CallsA Try.prog 54 [.ptr q0 0, .int .i64 p1] (Hp h ((q0, .cells [.int .i64 p0.Places, mslO 4 b0_1 p0.L]) :: mo b0_1 c_T_lecternref16_Entry p0.L :: O)) fun d h' => ∃ r, G r ∧ d = .int .i64 r ∧ OK h ((q0, .cells [.int .i64 p0.Places, mslO 4 b0_1 p0.L]) :: mo b0_1 c_T_lecternref16_Entry p0.L :: O) ∧ h' = Hp h ((q0, .cells [.int .i64 p0.Places, mslO 4 b0_1 p0.L]) :: mo b0_1 c_T_lecternref16_Entry p0.L :: O) := by
  refine CallsA.ret ?_
  refine C_bodyO Try.func54 rfl en_54 Try.ntmps54 rfl ?_
  rw [F_lecternref16_Cache_find] at hF
  refine C_seq ?_
  refine C_reg (mdl []) ?_
  refine S_a (v := .int _ _) rfl ?_
  refine S_nil ?_
  refine C_join hF (fun (_ : Unit) s' => OK h ((q0, .cells [.int .i64 p0.Places, mslO 4 b0_1 p0.L]) :: mo b0_1 c_T_lecternref16_Entry p0.L :: O) ∧ WS s' ⟨mkSl 23 [], Hp h ((q0, .cells [.int .i64 p0.Places, mslO 4 b0_1 p0.L]) :: mo b0_1 c_T_lecternref16_Entry p0.L :: O)⟩) (fun J6 hF => ?_) ?_
  ·
    refine C_seq ?_
    refine C_reg (mdl []) ?_
    refine S_m (v := .ptr _ _) rfl ?_
    refine S_nilc (v := .ptr _ _) rfl rfl ?_
    refine S_faP rfl ty_fd_46_1 ty_sz_44 ?_
    refine S_ldP (j := 0) ok rfl rfl rfl hq0 (p_one (v := mslO 4 b0_1 p0.L) ty_ag_44 ty_sz_44 rfl) ?_
    refine S_lenO zb0_1 rfl ty_sl_44 ?_
    refine S_m (v := .int _ _) rfl ?_
    refine S_nil ?_
    refine WP_block ?_
    refine C_loop (σ := Int) hF (fun (a7 : Int) s' => OK h ((q0, .cells [.int .i64 p0.Places, mslO 4 b0_1 p0.L]) :: mo b0_1 c_T_lecternref16_Entry p0.L :: O) ∧ WS s' ⟨mkSl 23 [(1, .int .i64 p1), (10, mslO 4 b0_1 p0.L), (11, .int .i64 (p0.L.length : Int)), (12, .int .i64 a7)], Hp h ((q0, .cells [.int .i64 p0.Places, mslO 4 b0_1 p0.L]) :: mo b0_1 c_T_lecternref16_Entry p0.L :: O)⟩) ?_ ?_
    ·
      have hwo : WO ((q0, .cells [.int .i64 p0.Places, mslO 4 b0_1 p0.L]) :: mo b0_1 c_T_lecternref16_Entry p0.L :: O) ((q0, .cells [.int .i64 p0.Places, mslO 4 b0_1 p0.L]) :: mo b0_1 c_T_lecternref16_Entry p0.L :: O) := (.keep (.keep (.refl O)))
      exact ⟨(hwo.spec ok).1, WS.mk' (.cons (.refl _) (.cons (.refl _) (.cons (.refl _) (.cons (.refl _) .nil)))) ok hwo⟩
    ·
      rintro G8 hG9 rec10 a7 s' ih11 hF ⟨ok, hws⟩
      refine WP_ws hws ?_
      clear hws s'
      rw [F_lecternref16_Cache_find_l0] at hF
      refine C_seq ?_
      refine C_reg (mdl []) ?_
      refine S_bin rfl rfl (ev_lss ..) ?_
      refine S_nil ?_
      refine C_seq ?_
      refine C_if (b := (decide (a7 < (p0.L.length : Int)))) rfl hF (fun hb12 hF => ?_) (fun hb12 hF => ?_)
      ·
        refine WP_skip ?_
        refine C_seq ?_
        refine WP_block ?_
        refine C_seq ?_
        refine C_reg (mdl [(6, 1)]) ?_
        refine S_m (v := .int _ _) rfl ?_
        refine S_ixO zb0_1 rfl rfl ty_sl_44 ty_sz_76 hF (fun x13 hx13 hF => ?_)
        refine S_ldO (q := 4) (j := 1) (f0 := 0) ok rfl zb0_1 rfl rfl (fun _ => rfl) hx13 rfl rfl (p_agg (vs := c_T_lecternref16_Entry x13) ty_ag_76 ty_sz_76 rfl rfl) ?_
        refine S_all1 ok rfl ty_zc_76 ?_
        intro i14 hi14 ok
        refine S_a (v := .int _ _) rfl ?_
        refine S_st (j := 0) (cs' := [.int .i64 x13.Key, .int .i64 x13.Value, .bool x13.Dirty, .int .i64 x13.Pins]) ok rfl rfl rfl hi14 rfl ty_sz_76 rfl rfl (fun ok => ?_)
        refine S_nil ?_
        refine C_seq ?_
        refine C_reg (mdl []) ?_
        refine S_faP rfl ty_fd_76_0 ty_sz_3 ?_
        refine S_ldP (j := 0) ok rfl rfl rfl hi14 (p_one (v := .int .i64 x13.Key) ty_ag_3 ty_sz_3 rfl) ?_
        refine S_m (v := .int _ _) rfl ?_
        refine S_bin rfl rfl (ev_eql ..) ?_
        refine S_nil ?_
        refine C_if (b := (x13.Key == p1)) rfl hF (fun hb15 hF => ?_) (fun hb15 hF => ?_)
        ·
          refine C_seq ?_
          refine C_reg (mdl []) ?_
          refine S_m (v := .int _ _) rfl ?_
          refine S_a (v := .int _ _) rfl ?_
          refine S_nil ?_
          refine WP_ret ?_
          replace hF := hG9 _ (F_some hF)
          repeat (first | with_reducible refine Exit.sel_ret ?_ | with_reducible refine Exit.blk_ret ?_)
          have hwo : WO ((i14, .cells [.int .i64 x13.Key, .int .i64 x13.Value, .bool x13.Dirty, .int .i64 x13.Pins]) :: (q0, .cells [.int .i64 p0.Places, mslO 4 b0_1 p0.L]) :: mo b0_1 c_T_lecternref16_Entry p0.L :: O) ((q0, .cells [.int .i64 p0.Places, mslO 4 b0_1 p0.L]) :: mo b0_1 c_T_lecternref16_Entry p0.L :: O) := (.drop (.keep (.keep (.refl O))))
          refine C_ret (fn := Try.f54) rfl (.tmp (v := .int .i64 a7) rfl .nil) ?_
          exact ⟨_, _, (.refl _), (hwo.spec ok).2.2, _, F_some hF, rfl, (hwo.spec ok).1, rfl⟩
        ·
          refine WP_skip ?_
          refine C_reg (mdl []) ?_
          refine S_bin rfl rfl (ev_add ..) ?_
          refine S_m (v := .int _ _) rfl ?_
          refine S_nil ?_
          refine ih11 (IntKind.wrap .i64 (a7 + (1 : Int))) _ hF ?_
          have hwo : WO ((i14, .cells [.int .i64 x13.Key, .int .i64 x13.Value, .bool x13.Dirty, .int .i64 x13.Pins]) :: (q0, .cells [.int .i64 p0.Places, mslO 4 b0_1 p0.L]) :: mo b0_1 c_T_lecternref16_Entry p0.L :: O) ((q0, .cells [.int .i64 p0.Places, mslO 4 b0_1 p0.L]) :: mo b0_1 c_T_lecternref16_Entry p0.L :: O) := (.drop (.keep (.keep (.refl O))))
          exact ⟨(hwo.spec ok).1, WS.mk' (.cons (.refl _) (.cons (.refl _) (.cons (.refl _) (.cons (.refl _) .nil)))) ok hwo⟩
      ·
        refine WP_exit ?_
        simp only [Exit.sel, Exit.blk, if_true, if_false, reduceIte, Nat.reduceEqDiff, Nat.succ_ne_zero, Nat.zero_ne_one, Nat.one_ne_zero]
        replace hF := hG9 _ (F_some hF)
        have hwo : WO ((q0, .cells [.int .i64 p0.Places, mslO 4 b0_1 p0.L]) :: mo b0_1 c_T_lecternref16_Entry p0.L :: O) ((q0, .cells [.int .i64 p0.Places, mslO 4 b0_1 p0.L]) :: mo b0_1 c_T_lecternref16_Entry p0.L :: O) := (.keep (.keep (.refl O)))
        exact ⟨(), hF, (hwo.spec ok).1, WS.mk' .nil ok hwo⟩
  ·
    rintro ⟨⟩ s' hF ⟨ok, hws⟩
    refine WP_ws hws ?_
    clear hws s'
    refine C_seq ?_
    refine C_reg (mdl []) ?_
    refine S_a (v := .int _ _) rfl ?_
    refine S_nil ?_
    refine WP_ret ?_
    repeat (first | with_reducible refine Exit.sel_ret ?_ | with_reducible refine Exit.blk_ret ?_)
    have hwo : WO ((q0, .cells [.int .i64 p0.Places, mslO 4 b0_1 p0.L]) :: mo b0_1 c_T_lecternref16_Entry p0.L :: O) ((q0, .cells [.int .i64 p0.Places, mslO 4 b0_1 p0.L]) :: mo b0_1 c_T_lecternref16_Entry p0.L :: O) := (.keep (.keep (.refl O)))
    refine C_ret (fn := Try.f54) rfl (.tmp (v := .int .i64 (-1 : Int)) rfl .nil) ?_
    exact ⟨_, _, (.refl _), (hwo.spec ok).2.2, _, F_some hF, rfl, (hwo.spec ok).1, rfl⟩
theorem F_lecternref16_Cache_find_ok {β : Type} {f0 : Int → Option β} {G : β → Prop} {R : D → Heap → Prop} {p0 : T_lecternref16_Cache} {p1 : Int} {q0 : Nat} {b0_1 : Nat} (h : Heap) (O : List (Nat × AObj)) (hq0 : q0 ≠ 0) (zb0_1 : b0_1 = 0 → p0.L = []) (ok : OK h ((q0, .cells [.int .i64 p0.Places, mslO 4 b0_1 p0.L]) :: mo b0_1 c_T_lecternref16_Entry p0.L :: O)) (hF : OptP ((F_lecternref16_Cache_find p0 p1).bind f0) G) (hk : ∀ r, F_lecternref16_Cache_find p0 p1 = some r → OK h ((q0, .cells [.int .i64 p0.Places, mslO 4 b0_1 p0.L]) :: mo b0_1 c_T_lecternref16_Entry p0.L :: O) → OptP (f0 r) G → R (.int .i64 r) (Hp h ((q0, .cells [.int .i64 p0.Places, mslO 4 b0_1 p0.L]) :: mo b0_1 c_T_lecternref16_Entry p0.L :: O))) : CallsA Try.prog 54 [.ptr q0 0, .int .i64 p1] (Hp h ((q0, .cells [.int .i64 p0.Places, mslO 4 b0_1 p0.L]) :: mo b0_1 c_T_lecternref16_Entry p0.L :: O)) R := by
  obtain ⟨r0, hr, hF⟩ := F_bind hF
  refine (F_lecternref16_Cache_find_w (G := fun r => r = r0) p0 p1 q0 b0_1 h O hq0 zb0_1 ok ⟨r0, hr, rfl⟩).mono ?_
  rintro _ _ ⟨r, rfl, rfl, ok', rfl⟩
  exact hk _ hr ok' hF
theorem F_lecternref16_Cache_out_w (p0 : T_lecternref16_Cache) (p1 : Int) (q0 : Nat) (b0_1 : Nat) {G : T_lecternref16_Cache → Prop} (h : Heap) (O : List (Nat × AObj)) (hq0 : q0 ≠ 0) (zb0_1 : b0_1 = 0 → p0.L = []) (ok : OK h ((q0, .cells [.int .i64 p0.Places, mslO 4 b0_1 p0.L]) :: mo b0_1 c_T_lecternref16_Entry p0.L :: O)) (hF : OptP (F_lecternref16_Cache_out p0 p1) G) : CallsA Try.prog 56 [.ptr q0 0, .int .i64 p1] (Hp h ((q0, .cells [.int .i64 p0.Places, mslO 4 b0_1 p0.L]) :: mo b0_1 c_T_lecternref16_Entry p0.L :: O)) fun d h' => ∃ r, G r ∧ d = .tup [] ∧ ∃ b0_1' : Nat, (b0_1' = 0 → r.L = []) ∧ OK h ((q0, .cells [.int .i64 r.Places, mslO 4 b0_1' r.L]) :: mo b0_1' c_T_lecternref16_Entry r.L :: O) ∧ h' = Hp h ((q0, .cells [.int .i64 r.Places, mslO 4 b0_1' r.L]) :: mo b0_1' c_T_lecternref16_Entry r.L :: O) := by
  refine CallsA.ret ?_
  refine C_bodyO Try.func56 rfl en_56 Try.ntmps56 rfl ?_
  rw [F_lecternref16_Cache_out] at hF
  refine C_seq ?_
  refine C_reg (mdl [(5, 1), (12, 1)]) ?_
  refine S_lit1O (cs := []) (c := c_T_lecternref16_Entry) (e := ([] : List T_lecternref16_Entry)) ok rfl ty_el_44 rfl (by kernel_rfl) (by kernel_rfl) ?_
  intro u1 zu1 ok
  refine S_m (v := .ptr _ _) rfl ?_
  refine S_nilc (v := .ptr _ _) rfl rfl ?_
  refine S_faP rfl ty_fd_46_1 ty_sz_44 ?_
  refine S_ldP (j := 1) ok rfl rfl rfl hq0 (p_one (v := mslO 4 b0_1 p0.L) ty_ag_44 ty_sz_44 rfl) ?_
  refine S_m (v := .int _ _) rfl ?_
  refine S_slO zb0_1 rfl ty_sl_44 ty_sz_76 bd_no (bd_at rfl) hF (fun x2 hx2 hF => ?_)
  refine S_appO (j := 0) (M := x2) ok zu1 rfl rfl (src_sub (jj := 2) ok zb0_1 rfl (fun _ => rfl) hx2) (fun _ => rfl) rfl ty_el_44 ty_ni_44 hF ?_
  intro u3 zu3 ok hF
  obtain ⟨a4, ha4, hF⟩ := F_let hF
  rw [← ha4] at ok zu3
  rw [← ha4]
  refine S_a (v := mslO _ _ _) rfl ?_
  refine S_nil ?_
  refine C_reg (mdl [(22, 1)]) ?_
  refine S_m (v := .ptr _ _) rfl ?_
  refine S_m (v := mslO _ _ _) rfl ?_
  refine S_m (v := .ptr _ _) rfl ?_
  refine S_nilc (v := .ptr _ _) rfl rfl ?_
  refine S_faP rfl ty_fd_46_1 ty_sz_44 ?_
  refine S_ldP (j := 1) ok rfl rfl rfl hq0 (p_one (v := mslO 4 b0_1 p0.L) ty_ag_44 ty_sz_44 rfl) ?_
  refine S_m (v := .int _ _) rfl ?_
  refine S_bin rfl rfl (ev_add ..) ?_
  refine S_slO zb0_1 rfl ty_sl_44 ty_sz_76 (bd_at rfl) bd_no hF (fun x5 hx5 hF => ?_)
  refine S_appO (j := 0) (M := x5) ok zu3 rfl rfl (src_sub (jj := 2) ok zb0_1 rfl (fun _ => rfl) hx5) (fun _ => rfl) rfl ty_el_44 ty_ni_44 hF ?_
  intro u6 zu6 ok hF
  obtain ⟨a7, ha7, hF⟩ := F_let hF
  rw [← ha7] at ok zu6
  rw [← ha7]
  refine S_nilc (v := .ptr _ _) rfl rfl ?_
  refine S_faP rfl ty_fd_46_1 ty_sz_44 ?_
  refine S_stB (j := 1) (cs' := [.int .i64 p0.Places, mslO 4 u6 a7]) ok rfl rfl rfl hq0 ty_sz_44 rfl rfl (fun ok => ?_)
  refine S_nil ?_
  obtain ⟨hpe, ok⟩ := Hp_pull 1 ok rfl
  rw [hpe]; clear hpe
  repeat (first | with_reducible refine Exit.sel_ret ?_ | with_reducible refine Exit.blk_ret ?_)
  have hwo : WO ((q0, .cells [.int .i64 p0.Places, mslO 4 u6 a7]) :: mo u6 c_T_lecternref16_Entry a7 :: mo b0_1 c_T_lecternref16_Entry p0.L :: O) ((q0, .cells [.int .i64 p0.Places, mslO 4 u6 a7]) :: mo u6 c_T_lecternref16_Entry a7 :: O) := (.keep (.keep (.drop (.refl O))))
  refine C_retN (fn := Try.f56) rfl .nil ?_
  exact ⟨_, _, (.refl _), (hwo.spec ok).2.2, _, F_some hF, rfl, u6, zu6, (hwo.spec ok).1, rfl⟩
theorem F_lecternref16_Cache_out_ok {β : Type} {f0 : T_lecternref16_Cache → Option β} {G : β → Prop} {R : D → Heap → Prop} {p0 : T_lecternref16_Cache} {p1 : Int} {q0 : Nat} {b0_1 : Nat} (h : Heap) (O : List (Nat × AObj)) (hq0 : q0 ≠ 0) (zb0_1 : b0_1 = 0 → p0.L = []) (ok : OK h ((q0, .cells [.int .i64 p0.Places, mslO 4 b0_1 p0.L]) :: mo b0_1 c_T_lecternref16_Entry p0.L :: O)) (hF : OptP ((F_lecternref16_Cache_out p0 p1).bind f0) G) (hk : ∀ r b0_1', F_lecternref16_Cache_out p0 p1 = some r → (b0_1' = 0 → r.L = []) → OK h ((q0, .cells [.int .i64 r.Places, mslO 4 b0_1' r.L]) :: mo b0_1' c_T_lecternref16_Entry r.L :: O) → OptP (f0 r) G → R (.tup []) (Hp h ((q0, .cells [.int .i64 r.Places, mslO 4 b0_1' r.L]) :: mo b0_1' c_T_lecternref16_Entry r.L :: O))) : CallsA Try.prog 56 [.ptr q0 0, .int .i64 p1] (Hp h ((q0, .cells [.int .i64 p0.Places, mslO 4 b0_1 p0.L]) :: mo b0_1 c_T_lecternref16_Entry p0.L :: O)) R := by
  obtain ⟨r0, hr, hF⟩ := F_bind hF
  refine (F_lecternref16_Cache_out_w (G := fun r => r = r0) p0 p1 q0 b0_1 h O hq0 zb0_1 ok ⟨r0, hr, rfl⟩).mono ?_
  rintro _ _ ⟨r, rfl, rfl, b0_1', y0, ok', rfl⟩
  exact hk _ _ hr y0 ok' hF
theorem F_lecternref16_Cache_used_w (p0 : T_lecternref16_Cache) (p1 : Int) (q0 : Nat) (b0_1 : Nat) {G : T_lecternref16_Cache → Prop} (h : Heap) (O : List (Nat × AObj)) (hq0 : q0 ≠ 0) (zb0_1 : b0_1 = 0 → p0.L = []) (ok : OK h ((q0, .cells [.int .i64 p0.Places, mslO 4 b0_1 p0.L]) :: mo b0_1 c_T_lecternref16_Entry p0.L :: O)) (hF : OptP (F_lecternref16_Cache_used p0 p1) G) : CallsA Try.prog 55 [.ptr q0 0, .int .i64 p1] (Hp h ((q0, .cells [.int .i64 p0.Places, mslO 4 b0_1 p0.L]) :: mo b0_1 c_T_lecternref16_Entry p0.L :: O)) fun d h' => ∃ r, G r ∧ d = .tup [] ∧ ∃ b0_1' : Nat, (b0_1' = 0 → r.L = []) ∧ OK h ((q0, .cells [.int .i64 r.Places, mslO 4 b0_1' r.L]) :: mo b0_1' c_T_lecternref16_Entry r.L :: O) ∧ h' = Hp h ((q0, .cells [.int .i64 r.Places, mslO 4 b0_1' r.L]) :: mo b0_1' c_T_lecternref16_Entry r.L :: O) := by
  refine CallsA.ret ?_
  refine C_bodyO Try.func55 rfl en_55 Try.ntmps55 rfl ?_
  rw [F_lecternref16_Cache_used] at hF
  refine C_seq ?_
  refine C_reg (mdl [(4, 1)]) ?_
  refine S_m (v := .ptr _ _) rfl ?_
  refine S_nilc (v := .ptr _ _) rfl rfl ?_
  refine S_faP rfl ty_fd_46_1 ty_sz_44 ?_
  refine S_ldP (j := 0) ok rfl rfl rfl hq0 (p_one (v := mslO 4 b0_1 p0.L) ty_ag_44 ty_sz_44 rfl) ?_
  refine S_m (v := .int _ _) rfl ?_
  refine S_ixO zb0_1 rfl rfl ty_sl_44 ty_sz_76 hF (fun x1 hx1 hF => ?_)
  refine S_ldO (q := 4) (j := 1) (f0 := 0) ok rfl zb0_1 rfl rfl (fun _ => rfl) hx1 rfl rfl (p_agg (vs := c_T_lecternref16_Entry x1) ty_ag_76 ty_sz_76 rfl rfl) ?_
  refine S_all1 ok rfl ty_zc_76 ?_
  intro i2 hi2 ok
  refine S_st (j := 0) (cs' := [.int .i64 x1.Key, .int .i64 x1.Value, .bool x1.Dirty, .int .i64 x1.Pins]) ok rfl rfl rfl hi2 rfl ty_sz_76 rfl rfl (fun ok => ?_)
  refine S_nil ?_
  refine C_seq ?_
  refine C_reg (mdl []) ?_
  refine S_m (v := .ptr _ _) rfl ?_
  refine S_m (v := .int _ _) rfl ?_
  obtain ⟨hpe, ok⟩ := Hp_pull 2 ok rfl
  rw [hpe]; clear hpe
  obtain ⟨hpe, ok⟩ := Hp_pull 2 ok rfl
  rw [hpe]; clear hpe
  refine S_call (F_lecternref16_Cache_out_ok (q0 := q0) (b0_1 := b0_1) h ((i2, .cells [.int .i64 x1.Key, .int .i64 x1.Value, .bool x1.Dirty, .int .i64 x1.Pins]) :: O) hq0 zb0_1 ok hF fun x3 u4 _ zu4 ok hF => ?_) (.cons (.refl _) (.cons (.refl _) (.nil)))
  refine S_nil ?_
  refine C_drw (mdl [(22, 1)]) (by kernel_rfl) (by kernel_rfl) ?_
  refine S_m (v := .ptr _ _) rfl ?_
  refine S_m (v := .ptr _ _) rfl ?_
  refine S_nilc (v := .ptr _ _) rfl rfl ?_
  refine S_faP rfl ty_fd_46_1 ty_sz_44 ?_
  refine S_ldP (j := 0) ok rfl rfl rfl hq0 (p_one (v := mslO 4 u4 x3.L) ty_ag_44 ty_sz_44 rfl) ?_
  refine S_ldP (j := 2) ok rfl rfl rfl hi2 (p_agg (vs := c_T_lecternref16_Entry x1) ty_ag_76 ty_sz_76 rfl rfl) ?_
  refine S_lit0 (cs := [.int .i64 x1.Key, .int .i64 x1.Value, .bool x1.Dirty, .int .i64 x1.Pins]) (es := (List.map c_T_lecternref16_Entry [x1])) rfl ty_el_44 rfl (by kernel_rfl) (by kernel_rfl) ?_
  refine S_appO (j := 1) (M := [x1]) ok zu4 rfl rfl src_sl (fun _ => rfl) rfl ty_el_44 ty_ni_44 hF ?_
  intro u5 zu5 ok hF
  obtain ⟨a6, ha6, hF⟩ := F_let hF
  rw [← ha6] at ok zu5
  rw [← ha6]
  refine S_nilc (v := .ptr _ _) rfl rfl ?_
  refine S_faP rfl ty_fd_46_1 ty_sz_44 ?_
  refine S_stB (j := 0) (cs' := [.int .i64 x3.Places, mslO 4 u5 a6]) ok rfl rfl rfl hq0 ty_sz_44 rfl rfl (fun ok => ?_)
  refine S_nil ?_
  repeat (first | with_reducible refine Exit.sel_ret ?_ | with_reducible refine Exit.blk_ret ?_)
  have hwo : WO ((q0, .cells [.int .i64 x3.Places, mslO 4 u5 a6]) :: mo u5 c_T_lecternref16_Entry a6 :: (i2, .cells [.int .i64 x1.Key, .int .i64 x1.Value, .bool x1.Dirty, .int .i64 x1.Pins]) :: O) ((q0, .cells [.int .i64 x3.Places, mslO 4 u5 a6]) :: mo u5 c_T_lecternref16_Entry a6 :: O) := (.keep (.keep (.drop (.refl O))))
  refine C_retN (fn := Try.f55) rfl .nil ?_
  exact ⟨_, _, (.refl _), (hwo.spec ok).2.2, _, F_some hF, rfl, u5, zu5, (hwo.spec ok).1, rfl⟩
theorem F_lecternref16_Cache_used_ok {β : Type} {f0 : T_lecternref16_Cache → Option β} {G : β → Prop} {R : D → Heap → Prop} {p0 : T_lecternref16_Cache} {p1 : Int} {q0 : Nat} {b0_1 : Nat} (h : Heap) (O : List (Nat × AObj)) (hq0 : q0 ≠ 0) (zb0_1 : b0_1 = 0 → p0.L = []) (ok : OK h ((q0, .cells [.int .i64 p0.Places, mslO 4 b0_1 p0.L]) :: mo b0_1 c_T_lecternref16_Entry p0.L :: O)) (hF : OptP ((F_lecternref16_Cache_used p0 p1).bind f0) G) (hk : ∀ r b0_1', F_lecternref16_Cache_used p0 p1 = some r → (b0_1' = 0 → r.L = []) → OK h ((q0, .cells [.int .i64 r.Places, mslO 4 b0_1' r.L]) :: mo b0_1' c_T_lecternref16_Entry r.L :: O) → OptP (f0 r) G → R (.tup []) (Hp h ((q0, .cells [.int .i64 r.Places, mslO 4 b0_1' r.L]) :: mo b0_1' c_T_lecternref16_Entry r.L :: O))) : CallsA Try.prog 55 [.ptr q0 0, .int .i64 p1] (Hp h ((q0, .cells [.int .i64 p0.Places, mslO 4 b0_1 p0.L]) :: mo b0_1 c_T_lecternref16_Entry p0.L :: O)) R := by
  obtain ⟨r0, hr, hF⟩ := F_bind hF
  refine (F_lecternref16_Cache_used_w (G := fun r => r = r0) p0 p1 q0 b0_1 h O hq0 zb0_1 ok ⟨r0, hr, rfl⟩).mono ?_
  rintro _ _ ⟨r, rfl, rfl, b0_1', y0, ok', rfl⟩
  exact hk _ _ hr y0 ok' hF
theorem F_lecternref16_Cache_Get_w (p0 : T_lecternref16_Cache) (p1 : Int) (q0 : Nat) (b0_1 : Nat) {G : (Int × Bool) × T_lecternref16_Cache → Prop} (h : Heap) (O : List (Nat × AObj)) (hq0 : q0 ≠ 0) (zb0_1 : b0_1 = 0 → p0.L = []) (ok : OK h ((q0, .cells [.int .i64 p0.Places, mslO 4 b0_1 p0.L]) :: mo b0_1 c_T_lecternref16_Entry p0.L :: O)) (hF : OptP (F_lecternref16_Cache_Get p0 p1) G) : CallsA Try.prog 40 [.ptr q0 0, .int .i64 p1] (Hp h ((q0, .cells [.int .i64 p0.Places, mslO 4 b0_1 p0.L]) :: mo b0_1 c_T_lecternref16_Entry p0.L :: O)) fun d h' => ∃ r, G r ∧ d = .tup [.int .i64 r.1.1, .bool r.1.2] ∧ ∃ b0_1' : Nat, (b0_1' = 0 → r.2.L = []) ∧ OK h ((q0, .cells [.int .i64 r.2.Places, mslO 4 b0_1' r.2.L]) :: mo b0_1' c_T_lecternref16_Entry r.2.L :: O) ∧ h' = Hp h ((q0, .cells [.int .i64 r.2.Places, mslO 4 b0_1' r.2.L]) :: mo b0_1' c_T_lecternref16_Entry r.2.L :: O) := by
  refine CallsA.ret ?_
  refine C_bodyO Try.func40 rfl en_40 Try.ntmps40 rfl ?_
  rw [F_lecternref16_Cache_Get] at hF
  refine C_seq ?_
  refine C_reg (mdl []) ?_
  refine S_a (v := .int _ _) rfl ?_
  refine S_a (v := .bool _) rfl ?_
  refine S_nil ?_
  refine C_seq ?_
  refine C_reg (mdl []) ?_
  refine S_m (v := .ptr _ _) rfl ?_
  refine S_m (v := .int _ _) rfl ?_
  obtain ⟨hpe, ok⟩ := Hp_pull 1 ok rfl
  rw [hpe]; clear hpe
  obtain ⟨hpe, ok⟩ := Hp_pull 1 ok rfl
  rw [hpe]; clear hpe
  refine S_call (F_lecternref16_Cache_find_ok (q0 := q0) (b0_1 := b0_1) h (O) hq0 zb0_1 ok hF fun x1 _  ok hF => ?_) (.cons (.refl _) (.cons (.refl _) (.nil)))
  refine S_a (v := .int _ _) rfl ?_
  refine S_nil ?_
  refine C_seq ?_
  refine C_seq ?_
  refine C_reg (mdl []) ?_
  refine S_m (v := .int _ _) rfl ?_
  refine S_bin rfl rfl (ev_lss ..) ?_
  refine S_nil ?_
  refine C_if (b := (decide (x1 < (0 : Int)))) rfl hF (fun hb2 hF => ?_) (fun hb2 hF => ?_)
  ·
    refine C_seq ?_
    refine C_reg (mdl []) ?_
    refine S_a (v := .int _ _) rfl ?_
    refine S_a (v := .bool _) rfl ?_
    refine S_nil ?_
    refine WP_ret ?_
    repeat (first | with_reducible refine Exit.sel_ret ?_ | with_reducible refine Exit.blk_ret ?_)
    have hwo : WO ((q0, .cells [.int .i64 p0.Places, mslO 4 b0_1 p0.L]) :: mo b0_1 c_T_lecternref16_Entry p0.L :: O) ((q0, .cells [.int .i64 p0.Places, mslO 4 b0_1 p0.L]) :: mo b0_1 c_T_lecternref16_Entry p0.L :: O) := (.keep (.keep (.refl O)))
    refine C_ret (fn := Try.f40) rfl (.tmp (v := .int .i64 (0 : Int)) rfl (.tmp (v := .bool false) rfl .nil)) ?_
    exact ⟨_, _, (.tupC (.cons (.refl _) (.cons (.refl _) (.nil)))), (hwo.spec ok).2.2, _, F_some hF, rfl, b0_1, zb0_1, (hwo.spec ok).1, rfl⟩
  ·
    refine WP_skip ?_
    refine C_seq ?_
    refine C_reg (mdl []) ?_
    refine S_m (v := .ptr _ _) rfl ?_
    refine S_nilc (v := .ptr _ _) rfl rfl ?_
    refine S_faP rfl ty_fd_46_1 ty_sz_44 ?_
    refine S_ldP (j := 0) ok rfl rfl rfl hq0 (p_one (v := mslO 4 b0_1 p0.L) ty_ag_44 ty_sz_44 rfl) ?_
    refine S_m (v := .int _ _) rfl ?_
    refine S_ixO zb0_1 rfl rfl ty_sl_44 ty_sz_76 hF (fun x3 hx3 hF => ?_)
    refine S_faP rfl ty_fd_76_1 ty_sz_3 ?_
    refine S_ldO (q := 4) (j := 1) (f0 := 1) ok rfl zb0_1 rfl rfl (fun _ => rfl) hx3 rfl rfl (p_one ty_ag_3 ty_sz_3 rfl) ?_
    refine S_a (v := .int _ _) rfl ?_
    refine S_nil ?_
    refine C_seq ?_
    refine C_reg (mdl []) ?_
    refine S_m (v := .ptr _ _) rfl ?_
    refine S_m (v := .int _ _) rfl ?_
    obtain ⟨hpe, ok⟩ := Hp_pull 1 ok rfl
    rw [hpe]; clear hpe
    obtain ⟨hpe, ok⟩ := Hp_pull 1 ok rfl
    rw [hpe]; clear hpe
    refine S_call (F_lecternref16_Cache_used_ok (q0 := q0) (b0_1 := b0_1) h (O) hq0 zb0_1 ok hF fun x4 u5 _ zu5 ok hF => ?_) (.cons (.refl _) (.cons (.refl _) (.nil)))
    refine S_nil ?_
    refine C_seq ?_
    refine C_reg (mdl []) ?_
    refine S_m (v := .int _ _) rfl ?_
    refine S_a (v := .int _ _) rfl ?_
    refine S_a (v := .bool _) rfl ?_
    refine S_nil ?_
    refine WP_ret ?_
    repeat (first | with_reducible refine Exit.sel_ret ?_ | with_reducible refine Exit.blk_ret ?_)
    have hwo : WO ((q0, .cells [.int .i64 x4.Places, mslO 4 u5 x4.L]) :: mo u5 c_T_lecternref16_Entry x4.L :: O) ((q0, .cells [.int .i64 x4.Places, mslO 4 u5 x4.L]) :: mo u5 c_T_lecternref16_Entry x4.L :: O) := (.keep (.keep (.refl O)))
    refine C_ret (fn := Try.f40) rfl (.tmp (v := .int .i64 x3.Value) rfl (.tmp (v := .bool true) rfl .nil)) ?_
    exact ⟨_, _, (.tupC (.cons (.refl _) (.cons (.refl _) (.nil)))), (hwo.spec ok).2.2, _, F_some hF, rfl, u5, zu5, (hwo.spec ok).1, rfl⟩
theorem F_lecternref16_Cache_Get_ok {β : Type} {f0 : (Int × Bool) × T_lecternref16_Cache → Option β} {G : β → Prop} {R : D → Heap → Prop} {p0 : T_lecternref16_Cache} {p1 : Int} {q0 : Nat} {b0_1 : Nat} (h : Heap) (O : List (Nat × AObj)) (hq0 : q0 ≠ 0) (zb0_1 : b0_1 = 0 → p0.L = []) (ok : OK h ((q0, .cells [.int .i64 p0.Places, mslO 4 b0_1 p0.L]) :: mo b0_1 c_T_lecternref16_Entry p0.L :: O)) (hF : OptP ((F_lecternref16_Cache_Get p0 p1).bind f0) G) (hk : ∀ r b0_1', F_lecternref16_Cache_Get p0 p1 = some r → (b0_1' = 0 → r.2.L = []) → OK h ((q0, .cells [.int .i64 r.2.Places, mslO 4 b0_1' r.2.L]) :: mo b0_1' c_T_lecternref16_Entry r.2.L :: O) → OptP (f0 r) G → R (.tup [.int .i64 r.1.1, .bool r.1.2]) (Hp h ((q0, .cells [.int .i64 r.2.Places, mslO 4 b0_1' r.2.L]) :: mo b0_1' c_T_lecternref16_Entry r.2.L :: O))) : CallsA Try.prog 40 [.ptr q0 0, .int .i64 p1] (Hp h ((q0, .cells [.int .i64 p0.Places, mslO 4 b0_1 p0.L]) :: mo b0_1 c_T_lecternref16_Entry p0.L :: O)) R := by
  obtain ⟨r0, hr, hF⟩ := F_bind hF
  refine (F_lecternref16_Cache_Get_w (G := fun r => r = r0) p0 p1 q0 b0_1 h O hq0 zb0_1 ok ⟨r0, hr, rfl⟩).mono ?_
  rintro _ _ ⟨r, rfl, rfl, b0_1', y0, ok', rfl⟩
  exact hk _ _ hr y0 ok' hF
theorem F_lecternref16_Cache_Put_w (p0 : T_lecternref16_Cache) (p1 : Int) (p2 : Int) (p3 : Bool) (q0 : Nat) (b0_1 : Nat) {G : Int × T_lecternref16_Cache → Prop} (h : Heap) (O : List (Nat × AObj)) (hq0 : q0 ≠ 0) (zb0_1 : b0_1 = 0 → p0.L = []) (ok : OK h ((q0, .cells [.int .i64 p0.Places, mslO 4 b0_1 p0.L]) :: mo b0_1 c_T_lecternref16_Entry p0.L :: O)) (hF : OptP (F_lecternref16_Cache_Put p0 p1 p2 p3) G) : CallsA Try.prog 41 [.ptr q0 0, .int .i64 p1, .int .i64 p2, .bool p3] (Hp h ((q0, .cells [.int .i64 p0.Places, mslO 4 b0_1 p0.L]) :: mo b0_1 c_T_lecternref16_Entry p0.L :: O)) fun d h' => ∃ r, G r ∧ d = .int .i64 r.1 ∧ ∃ b0_1' : Nat, (b0_1' = 0 → r.2.L = []) ∧ OK h ((q0, .cells [.int .i64 r.2.Places, mslO 4 b0_1' r.2.L]) :: mo b0_1' c_T_lecternref16_Entry r.2.L :: O) ∧ h' = Hp h ((q0, .cells [.int .i64 r.2.Places, mslO 4 b0_1' r.2.L]) :: mo b0_1' c_T_lecternref16_Entry r.2.L :: O) := by
  refine CallsA.ret ?_
  refine C_bodyO Try.func41 rfl en_41 Try.ntmps41 rfl ?_
  rw [F_lecternref16_Cache_Put] at hF
  refine C_seq ?_
  refine C_reg (mdl []) ?_
  refine S_a (v := .int _ _) rfl ?_
  refine S_nil ?_
  refine C_seq ?_
  refine C_reg (mdl []) ?_
  refine S_m (v := .ptr _ _) rfl ?_
  refine S_m (v := .int _ _) rfl ?_
  obtain ⟨hpe, ok⟩ := Hp_pull 1 ok rfl
  rw [hpe]; clear hpe
  obtain ⟨hpe, ok⟩ := Hp_pull 1 ok rfl
  rw [hpe]; clear hpe
  refine S_call (F_lecternref16_Cache_find_ok (q0 := q0) (b0_1 := b0_1) h (O) hq0 zb0_1 ok hF fun x1 _  ok hF => ?_) (.cons (.refl _) (.cons (.refl _) (.nil)))
  refine S_a (v := .int _ _) rfl ?_
  refine S_nil ?_
  refine C_seq ?_
  refine C_seq ?_
  refine C_reg (mdl []) ?_
  refine S_m (v := .int _ _) rfl ?_
  refine S_bin rfl rfl (ev_geq ..) ?_
  refine S_nil ?_
  refine C_if (b := (decide ((0 : Int) ≤ x1))) rfl hF (fun hb2 hF => ?_) (fun hb2 hF => ?_)
  ·
    refine C_seq ?_
    refine C_reg (mdl []) ?_
    refine S_m (v := .ptr _ _) rfl ?_
    refine S_nilc (v := .ptr _ _) rfl rfl ?_
    refine S_faP rfl ty_fd_46_1 ty_sz_44 ?_
    refine S_ldP (j := 0) ok rfl rfl rfl hq0 (p_one (v := mslO 4 b0_1 p0.L) ty_ag_44 ty_sz_44 rfl) ?_
    refine S_m (v := .int _ _) rfl ?_
    refine S_m (v := .int _ _) rfl ?_
    refine S_ixO zb0_1 rfl rfl ty_sl_44 ty_sz_76 hF (fun x3 hx3 hF => ?_)
    refine S_faP rfl ty_fd_76_1 ty_sz_3 ?_
    refine S_stO (q := 4) (j := 1) (f0 := 1) (b := (⟨x3.Key, p2, x3.Dirty, x3.Pins⟩ : T_lecternref16_Entry)) ok zb0_1 rfl rfl rfl (fun _ => rfl) hx3 rfl rfl ty_sz_3 rfl rfl (fun za4 ok => ?_)
    obtain ⟨a4, ha4, hF⟩ := F_let hF
    rw [← ha4] at ok za4
    rw [← ha4]
    have hms : mslO 4 b0_1 p0.L = mslO 4 b0_1 a4 := mslO_len (by rw [ha4, List.length_set])
    try rw [hms] at ok
    try rw [hms]
    clear hms
    refine S_nil ?_
    refine C_join hF (fun (a13 : (List T_lecternref16_Entry)) s' => ∃ g12 : Nat, (g12 = 0 → a13 = []) ∧ OK h ((q0, .cells [.int .i64 p0.Places, mslO 4 g12 a13]) :: mo g12 c_T_lecternref16_Entry a13 :: O) ∧ WS s' ⟨mkSl 108 [(0, .ptr q0 0), (9, .int .i64 x1)], Hp h ((q0, .cells [.int .i64 p0.Places, mslO 4 g12 a13]) :: mo g12 c_T_lecternref16_Entry a13 :: O)⟩) (fun J14 hF => ?_) ?_
    ·
      refine C_drw (mdl []) (by kernel_rfl) (by kernel_rfl) ?_
      refine S_m (v := .ptr _ _) rfl ?_
      refine S_nilc (v := .ptr _ _) rfl rfl ?_
      refine S_faP rfl ty_fd_46_1 ty_sz_44 ?_
      refine S_ldP (j := 0) ok rfl rfl rfl hq0 (p_one (v := mslO 4 b0_1 a4) ty_ag_44 ty_sz_44 rfl) ?_
      refine S_m (v := .int _ _) rfl ?_
      refine S_m (v := .ptr _ _) rfl ?_
      refine S_nilc (v := .ptr _ _) rfl rfl ?_
      refine S_faP rfl ty_fd_46_1 ty_sz_44 ?_
      refine S_ldP (j := 0) ok rfl rfl rfl hq0 (p_one (v := mslO 4 b0_1 a4) ty_ag_44 ty_sz_44 rfl) ?_
      refine S_m (v := .int _ _) rfl ?_
      refine S_ixO za4 rfl rfl ty_sl_44 ty_sz_76 hF (fun x15 hx15 hF => ?_)
      refine S_faP rfl ty_fd_76_2 ty_sz_4 ?_
      refine S_ldO (q := 4) (j := 1) (f0 := 2) ok rfl za4 rfl rfl (fun _ => rfl) hx15 rfl rfl (p_one ty_ag_4 ty_sz_4 rfl) ?_
      refine S_m (v := .bool _) rfl ?_
      refine S_if (b := x15.Dirty) hF (fun hb16 hF => ?_) (fun hb17 hF => ?_)
      ·
        refine S_off rfl rfl hb16 ?_
        refine S_offD ?_
        refine S_pickT (v := .bool _) rfl hb16 rfl ?_
        refine S_ixO za4 rfl rfl ty_sl_44 ty_sz_76 hF (fun x18 hx18 hF => ?_)
        refine S_faP rfl ty_fd_76_2 ty_sz_4 ?_
        refine S_stO (q := 4) (j := 1) (f0 := 2) (b := (⟨x18.Key, x18.Value, true, x18.Pins⟩ : T_lecternref16_Entry)) ok za4 rfl rfl rfl (fun _ => rfl) hx18 rfl rfl ty_sz_4 rfl rfl (fun za19 ok => ?_)
        obtain ⟨a19, ha19, hF⟩ := F_let hF
        rw [← ha19] at ok za19
        rw [← ha19]
        have hms : mslO 4 b0_1 a4 = mslO 4 b0_1 a19 := mslO_len (by rw [ha19, List.length_set])
        try rw [hms] at ok
        try rw [hms]
        clear hms
        refine S_nil ?_
        have hwo : WO ((q0, .cells [.int .i64 p0.Places, mslO 4 b0_1 a19]) :: mo b0_1 c_T_lecternref16_Entry a19 :: O) ((q0, .cells [.int .i64 p0.Places, mslO 4 b0_1 a19]) :: mo b0_1 c_T_lecternref16_Entry a19 :: O) := (.keep (.keep (.refl O)))
        exact ⟨a19, hF, b0_1, za19, (hwo.spec ok).1, WS.mk' (.cons (.refl _) (.cons (.refl _) .nil)) ok hwo⟩
      ·
        refine S_on rfl rfl hb17 ?_
        refine S_in ?_
        refine S_m (v := .bool _) rfl ?_
        refine S_nil ?_
        refine S_pickF (v := .bool _) rfl hb17 rfl ?_
        refine S_ixO za4 rfl rfl ty_sl_44 ty_sz_76 hF (fun x20 hx20 hF => ?_)
        refine S_faP rfl ty_fd_76_2 ty_sz_4 ?_
        refine S_stO (q := 4) (j := 1) (f0 := 2) (b := (⟨x20.Key, x20.Value, p3, x20.Pins⟩ : T_lecternref16_Entry)) ok za4 rfl rfl rfl (fun _ => rfl) hx20 rfl rfl ty_sz_4 rfl rfl (fun za21 ok => ?_)
        obtain ⟨a21, ha21, hF⟩ := F_let hF
        rw [← ha21] at ok za21
        rw [← ha21]
        have hms : mslO 4 b0_1 a4 = mslO 4 b0_1 a21 := mslO_len (by rw [ha21, List.length_set])
        try rw [hms] at ok
        try rw [hms]
        clear hms
        refine S_nil ?_
        have hwo : WO ((q0, .cells [.int .i64 p0.Places, mslO 4 b0_1 a21]) :: mo b0_1 c_T_lecternref16_Entry a21 :: O) ((q0, .cells [.int .i64 p0.Places, mslO 4 b0_1 a21]) :: mo b0_1 c_T_lecternref16_Entry a21 :: O) := (.keep (.keep (.refl O)))
        exact ⟨a21, hF, b0_1, za21, (hwo.spec ok).1, WS.mk' (.cons (.refl _) (.cons (.refl _) .nil)) ok hwo⟩
    ·
      rintro a13 s' hF ⟨g12, zg12, ok, hws⟩
      refine WP_ws hws ?_
      clear hws s'
      refine C_seq ?_
      refine C_reg (mdl []) ?_
      refine S_m (v := .ptr _ _) rfl ?_
      refine S_m (v := .int _ _) rfl ?_
      obtain ⟨hpe, ok⟩ := Hp_pull 1 ok rfl
      rw [hpe]; clear hpe
      obtain ⟨hpe, ok⟩ := Hp_pull 1 ok rfl
      rw [hpe]; clear hpe
      refine S_call (F_lecternref16_Cache_used_ok (q0 := q0) (b0_1 := g12) h (O) hq0 zg12 ok hF fun x22 u23 _ zu23 ok hF => ?_) (.cons (.refl _) (.cons (.refl _) (.nil)))
      refine S_nil ?_
      refine C_seq ?_
      refine C_reg (mdl []) ?_
      refine S_a (v := .int _ _) rfl ?_
      refine S_nil ?_
      refine WP_ret ?_
      repeat (first | with_reducible refine Exit.sel_ret ?_ | with_reducible refine Exit.blk_ret ?_)
      have hwo : WO ((q0, .cells [.int .i64 x22.Places, mslO 4 u23 x22.L]) :: mo u23 c_T_lecternref16_Entry x22.L :: O) ((q0, .cells [.int .i64 x22.Places, mslO 4 u23 x22.L]) :: mo u23 c_T_lecternref16_Entry x22.L :: O) := (.keep (.keep (.refl O)))
      refine C_ret (fn := Try.f41) rfl (.tmp (v := .int .i64 (0 : Int)) rfl .nil) ?_
      exact ⟨_, _, (.refl _), (hwo.spec ok).2.2, _, F_some hF, rfl, u23, zu23, (hwo.spec ok).1, rfl⟩
  ·
    refine WP_skip ?_
    refine C_join hF (fun (v : Int × (List T_lecternref16_Entry)) s' => match v with | (a49, a51) => ∃ g50 : Nat, (g50 = 0 → a51 = []) ∧ OK h ((q0, .cells [.int .i64 a49, mslO 4 g50 a51]) :: mo g50 c_T_lecternref16_Entry a51 :: O) ∧ WS s' ⟨mkSl 108 [(0, .ptr q0 0), (1, .int .i64 p1), (2, .int .i64 p2), (3, .bool p3)], Hp h ((q0, .cells [.int .i64 a49, mslO 4 g50 a51]) :: mo g50 c_T_lecternref16_Entry a51 :: O)⟩) (fun J52 hF => ?_) ?_
    ·
      refine C_seq ?_
      refine C_drw (mdl []) (by kernel_rfl) (by kernel_rfl) ?_
      refine S_m (v := .ptr _ _) rfl ?_
      refine S_nilc (v := .ptr _ _) rfl rfl ?_
      refine S_faP rfl ty_fd_46_1 ty_sz_44 ?_
      refine S_ldP (j := 0) ok rfl rfl rfl hq0 (p_one (v := mslO 4 b0_1 p0.L) ty_ag_44 ty_sz_44 rfl) ?_
      refine S_lenO zb0_1 rfl ty_sl_44 ?_
      refine S_m (v := .ptr _ _) rfl ?_
      refine S_nilc (v := .ptr _ _) rfl rfl ?_
      refine S_faP rfl ty_fd_46_0 ty_sz_3 ?_
      refine S_ldP (j := 0) ok rfl rfl rfl hq0 (p_one (v := .int .i64 p0.Places) ty_ag_3 ty_sz_3 rfl) ?_
      refine S_bin rfl rfl (ev_geq ..) ?_
      refine S_nil ?_
      refine C_if (b := (decide (p0.Places ≤ (p0.L.length : Int)))) rfl hF (fun hb53 hF => ?_) (fun hb53 hF => ?_)
      ·
        refine C_seq ?_
        refine C_reg (mdl []) ?_
        refine S_a (v := .int _ _) rfl ?_
        refine S_nil ?_
        refine C_join hF (fun (a64 : Int) s' => OK h ((q0, .cells [.int .i64 p0.Places, mslO 4 b0_1 p0.L]) :: mo b0_1 c_T_lecternref16_Entry p0.L :: O) ∧ WS s' ⟨mkSl 108 [(0, .ptr q0 0), (1, .int .i64 p1), (2, .int .i64 p2), (3, .bool p3), (10, .int .i64 a64)], Hp h ((q0, .cells [.int .i64 p0.Places, mslO 4 b0_1 p0.L]) :: mo b0_1 c_T_lecternref16_Entry p0.L :: O)⟩) (fun J65 hF => ?_) ?_
        ·
          refine WP_block ?_
          refine C_loop (σ := Int) hF (fun (a66 : Int) s' => OK h ((q0, .cells [.int .i64 p0.Places, mslO 4 b0_1 p0.L]) :: mo b0_1 c_T_lecternref16_Entry p0.L :: O) ∧ WS s' ⟨mkSl 108 [(0, .ptr q0 0), (1, .int .i64 p1), (2, .int .i64 p2), (3, .bool p3), (10, .int .i64 a66)], Hp h ((q0, .cells [.int .i64 p0.Places, mslO 4 b0_1 p0.L]) :: mo b0_1 c_T_lecternref16_Entry p0.L :: O)⟩) ?_ ?_
          ·
            have hwo : WO ((q0, .cells [.int .i64 p0.Places, mslO 4 b0_1 p0.L]) :: mo b0_1 c_T_lecternref16_Entry p0.L :: O) ((q0, .cells [.int .i64 p0.Places, mslO 4 b0_1 p0.L]) :: mo b0_1 c_T_lecternref16_Entry p0.L :: O) := (.keep (.keep (.refl O)))
            exact ⟨(hwo.spec ok).1, WS.mk' (.cons (.refl _) (.cons (.refl _) (.cons (.refl _) (.cons (.refl _) (.cons (.refl _) .nil))))) ok hwo⟩
          ·
            rintro G67 hG68 rec69 a66 s' ih70 hF ⟨ok, hws⟩
            refine WP_ws hws ?_
            clear hws s'
            rw [F_lecternref16_Cache_Put_l0] at hF
            refine C_seq ?_
            refine C_seq ?_
            refine C_reg (mdl []) ?_
            refine S_m (v := .int _ _) rfl ?_
            refine S_m (v := .ptr _ _) rfl ?_
            refine S_nilc (v := .ptr _ _) rfl rfl ?_
            refine S_faP rfl ty_fd_46_1 ty_sz_44 ?_
            refine S_ldP (j := 0) ok rfl rfl rfl hq0 (p_one (v := mslO 4 b0_1 p0.L) ty_ag_44 ty_sz_44 rfl) ?_
            refine S_lenO zb0_1 rfl ty_sl_44 ?_
            refine S_bin rfl rfl (ev_lss ..) ?_
            refine S_m (v := .bool _) rfl ?_
            refine S_twoJ 20 82 hF (fun J72 hb71 hF => ?_) (fun J72 hb71 hF => ?_) (fun v73 hF => ?_)
            ·
              refine S_on rfl rfl hb71 ?_
              refine S_in ?_
              refine S_m (v := .ptr _ _) rfl ?_
              refine S_nil ?_
              refine S_on rfl rfl hb71 ?_
              refine S_in ?_
              refine S_nilc (v := .ptr _ _) rfl rfl ?_
              refine S_nil ?_
              refine S_on rfl rfl hb71 ?_
              refine S_in ?_
              refine S_faP rfl ty_fd_46_1 ty_sz_44 ?_
              refine S_nil ?_
              refine S_on rfl rfl hb71 ?_
              refine S_in ?_
              refine S_ldP (j := 0) ok rfl rfl rfl hq0 (p_one (v := mslO 4 b0_1 p0.L) ty_ag_44 ty_sz_44 rfl) ?_
              refine S_nil ?_
              refine S_on rfl rfl hb71 ?_
              refine S_in ?_
              refine S_m (v := .int _ _) rfl ?_
              refine S_nil ?_
              refine S_on rfl rfl hb71 ?_
              refine S_in ?_
              refine S_ixO zb0_1 rfl rfl ty_sl_44 ty_sz_76 hF (fun x74 hx74 hF => ?_)
              refine S_nil ?_
              refine S_on rfl rfl hb71 ?_
              refine S_in ?_
              refine S_faP rfl ty_fd_76_2 ty_sz_4 ?_
              refine S_nil ?_
              refine S_on rfl rfl hb71 ?_
              refine S_in ?_
              refine S_ldO (q := 4) (j := 1) (f0 := 2) ok rfl zb0_1 rfl rfl (fun _ => rfl) hx74 rfl rfl (p_one ty_ag_4 ty_sz_4 rfl) ?_
              refine S_nil ?_
              refine S_on rfl rfl hb71 ?_
              refine S_in ?_
              refine S_m (v := .bool _) rfl ?_
              refine S_nil ?_
              refine S_twoJ 10 81 hF (fun J76 hb75 hF => ?_) (fun J76 hb75 hF => ?_) (fun v77 hF => ?_)
              ·
                refine S_off rfl rfl hb75 ?_
                refine S_offD ?_
                refine S_off rfl rfl hb75 ?_
                refine S_offD ?_
                refine S_off rfl rfl hb75 ?_
                refine S_offD ?_
                refine S_off rfl rfl hb75 ?_
                refine S_offD ?_
                refine S_off rfl rfl hb75 ?_
                refine S_offD ?_
                refine S_off rfl rfl hb75 ?_
                refine S_offD ?_
                refine S_off rfl rfl hb75 ?_
                refine S_offD ?_
                refine S_off rfl rfl hb75 ?_
                refine S_offD ?_
                refine S_off rfl rfl hb75 ?_
                refine S_offD ?_
                refine S_on rfl rfl hb71 ?_
                refine S_in ?_
                refine S_pickT (v := .bool _) rfl hb75 rfl ?_
                refine S_nil ?_
                refine S_nil ?_
                refine ⟨_, hF, .hd (.refl _) ?_⟩
                repeat (first | with_reducible exact WS.refl _ | refine WS.add ?_ rfl)
              ·
                refine S_on rfl rfl hb75 ?_
                refine S_in ?_
                refine S_m (v := .ptr _ _) rfl ?_
                refine S_nil ?_
                refine S_on rfl rfl hb75 ?_
                refine S_in ?_
                refine S_nilc (v := .ptr _ _) rfl rfl ?_
                refine S_nil ?_
                refine S_on rfl rfl hb75 ?_
                refine S_in ?_
                refine S_faP rfl ty_fd_46_1 ty_sz_44 ?_
                refine S_nil ?_
                refine S_on rfl rfl hb75 ?_
                refine S_in ?_
                refine S_ldP (j := 0) ok rfl rfl rfl hq0 (p_one (v := mslO 4 b0_1 p0.L) ty_ag_44 ty_sz_44 rfl) ?_
                refine S_nil ?_
                refine S_on rfl rfl hb75 ?_
                refine S_in ?_
                refine S_m (v := .int _ _) rfl ?_
                refine S_nil ?_
                refine S_on rfl rfl hb75 ?_
                refine S_in ?_
                refine S_ixO zb0_1 rfl rfl ty_sl_44 ty_sz_76 hF (fun x78 hx78 hF => ?_)
                refine S_nil ?_
                refine S_on rfl rfl hb75 ?_
                refine S_in ?_
                refine S_faP rfl ty_fd_76_3 ty_sz_3 ?_
                refine S_nil ?_
                refine S_on rfl rfl hb75 ?_
                refine S_in ?_
                refine S_ldO (q := 4) (j := 1) (f0 := 3) ok rfl zb0_1 rfl rfl (fun _ => rfl) hx78 rfl rfl (p_one ty_ag_3 ty_sz_3 rfl) ?_
                refine S_nil ?_
                refine S_on rfl rfl hb75 ?_
                refine S_in ?_
                refine S_bin rfl rfl (ev_gtr ..) ?_
                refine S_nil ?_
                refine S_on rfl rfl hb71 ?_
                refine S_in ?_
                refine S_pickF (v := .bool _) rfl hb75 rfl ?_
                refine S_nil ?_
                refine S_nil ?_
                refine ⟨_, hF, .hd (.refl _) ?_⟩
                repeat (first | with_reducible exact WS.refl _ | refine WS.add ?_ rfl)
              ·
                refine S_pickT (v := .bool _) rfl hb71 rfl ?_
                refine S_nil ?_
                refine ⟨_, hF, .hd (.refl _) ?_⟩
                repeat (first | with_reducible exact WS.refl _ | refine WS.add ?_ rfl)
            ·
              refine S_off rfl rfl hb71 ?_
              refine S_offD ?_
              refine S_off rfl rfl hb71 ?_
              refine S_offD ?_
              refine S_off rfl rfl hb71 ?_
              refine S_offD ?_
              refine S_off rfl rfl hb71 ?_
              refine S_offD ?_
              refine S_off rfl rfl hb71 ?_
              refine S_offD ?_
              refine S_off rfl rfl hb71 ?_
              refine S_offD ?_
              refine S_off rfl rfl hb71 ?_
              refine S_offD ?_
              refine S_off rfl rfl hb71 ?_
              refine S_offD ?_
              refine S_off rfl rfl hb71 ?_
              refine S_offD ?_
              refine S_off2 rfl rfl ?_
              refine S_offD ?_
              refine S_off2 rfl rfl ?_
              refine S_offD ?_
              refine S_off2 rfl rfl ?_
              refine S_offD ?_
              refine S_off2 rfl rfl ?_
              refine S_offD ?_
              refine S_off2 rfl rfl ?_
              refine S_offD ?_
              refine S_off2 rfl rfl ?_
              refine S_offD ?_
              refine S_off2 rfl rfl ?_
              refine S_offD ?_
              refine S_off2 rfl rfl ?_
              refine S_offD ?_
              refine S_off2 rfl rfl ?_
              refine S_offD ?_
              refine S_off rfl rfl hb71 ?_
              refine S_offD ?_
              refine S_pickF (v := .bool _) rfl hb71 rfl ?_
              refine S_nil ?_
              refine ⟨_, hF, .hd (.refl _) ?_⟩
              repeat (first | with_reducible exact WS.refl _ | refine WS.add ?_ rfl)
            ·
              refine S_nil ?_
              refine C_if (b := v73) rfl hF (fun hb79 hF => ?_) (fun hb79 hF => ?_)
              ·
                refine WP_skip ?_
                refine WP_block ?_
                refine C_reg (mdl []) ?_
                refine S_m (v := .int _ _) rfl ?_
                refine S_bin rfl rfl (ev_add ..) ?_
                refine S_a (v := .int _ _) rfl ?_
                refine S_nil ?_
                refine ih70 (IntKind.wrap .i64 (a66 + (1 : Int))) _ hF ?_
                have hwo : WO ((q0, .cells [.int .i64 p0.Places, mslO 4 b0_1 p0.L]) :: mo b0_1 c_T_lecternref16_Entry p0.L :: O) ((q0, .cells [.int .i64 p0.Places, mslO 4 b0_1 p0.L]) :: mo b0_1 c_T_lecternref16_Entry p0.L :: O) := (.keep (.keep (.refl O)))
                exact ⟨(hwo.spec ok).1, WS.mk' (.cons (.refl _) (.cons (.refl _) (.cons (.refl _) (.cons (.refl _) (.cons (.refl _) .nil))))) ok hwo⟩
              ·
                refine WP_exit ?_
                simp only [Exit.sel, Exit.blk, if_true, if_false, reduceIte, Nat.reduceEqDiff, Nat.succ_ne_zero, Nat.zero_ne_one, Nat.one_ne_zero]
                replace hF := hG68 _ (F_some hF)
                have hwo : WO ((q0, .cells [.int .i64 p0.Places, mslO 4 b0_1 p0.L]) :: mo b0_1 c_T_lecternref16_Entry p0.L :: O) ((q0, .cells [.int .i64 p0.Places, mslO 4 b0_1 p0.L]) :: mo b0_1 c_T_lecternref16_Entry p0.L :: O) := (.keep (.keep (.refl O)))
                exact ⟨a66, hF, (hwo.spec ok).1, WS.mk' (.cons (.refl _) (.cons (.refl _) (.cons (.refl _) (.cons (.refl _) (.cons (.refl _) .nil))))) ok hwo⟩
        ·
          rintro a64 s' hF ⟨ok, hws⟩
          refine WP_ws hws ?_
          clear hws s'
          refine C_seq ?_
          refine C_seq ?_
          refine C_reg (mdl []) ?_
          refine S_m (v := .int _ _) rfl ?_
          refine S_m (v := .ptr _ _) rfl ?_
          refine S_nilc (v := .ptr _ _) rfl rfl ?_
          refine S_faP rfl ty_fd_46_1 ty_sz_44 ?_
          refine S_ldP (j := 0) ok rfl rfl rfl hq0 (p_one (v := mslO 4 b0_1 p0.L) ty_ag_44 ty_sz_44 rfl) ?_
          refine S_lenO zb0_1 rfl ty_sl_44 ?_
          refine S_bin rfl rfl (ev_eql ..) ?_
          refine S_nil ?_
          refine C_if (b := (a64 == (p0.L.length : Int))) rfl hF (fun hb80 hF => ?_) (fun hb80 hF => ?_)
          ·
            refine C_seq ?_
            refine C_reg (mdl []) ?_
            refine S_a (v := .int _ _) rfl ?_
            refine S_nil ?_
            refine WP_ret ?_
            repeat (first | with_reducible refine Exit.sel_ret ?_ | with_reducible refine Exit.blk_ret ?_)
            have hwo : WO ((q0, .cells [.int .i64 p0.Places, mslO 4 b0_1 p0.L]) :: mo b0_1 c_T_lecternref16_Entry p0.L :: O) ((q0, .cells [.int .i64 p0.Places, mslO 4 b0_1 p0.L]) :: mo b0_1 c_T_lecternref16_Entry p0.L :: O) := (.keep (.keep (.refl O)))
            refine C_ret (fn := Try.f41) rfl (.tmp (v := .int .i64 (4 : Int)) rfl .nil) ?_
            exact ⟨_, _, (.refl _), (hwo.spec ok).2.2, _, F_some hF, rfl, b0_1, zb0_1, (hwo.spec ok).1, rfl⟩
          ·
            refine WP_skip ?_
            refine C_reg (mdl []) ?_
            refine S_m (v := .ptr _ _) rfl ?_
            refine S_m (v := .int _ _) rfl ?_
            obtain ⟨hpe, ok⟩ := Hp_pull 1 ok rfl
            rw [hpe]; clear hpe
            obtain ⟨hpe, ok⟩ := Hp_pull 1 ok rfl
            rw [hpe]; clear hpe
            refine S_call (F_lecternref16_Cache_out_ok (q0 := q0) (b0_1 := b0_1) h (O) hq0 zb0_1 ok hF fun x81 u82 _ zu82 ok hF => ?_) (.cons (.refl _) (.cons (.refl _) (.nil)))
            refine S_nil ?_
            have hwo : WO ((q0, .cells [.int .i64 x81.Places, mslO 4 u82 x81.L]) :: mo u82 c_T_lecternref16_Entry x81.L :: O) ((q0, .cells [.int .i64 x81.Places, mslO 4 u82 x81.L]) :: mo u82 c_T_lecternref16_Entry x81.L :: O) := (.keep (.keep (.refl O)))
            exact ⟨(x81.Places, x81.L), hF, u82, zu82, (hwo.spec ok).1, WS.mk' (.cons (.refl _) (.cons (.refl _) (.cons (.refl _) (.cons (.refl _) .nil)))) ok hwo⟩
      ·
        refine WP_skip ?_
        have hwo : WO ((q0, .cells [.int .i64 p0.Places, mslO 4 b0_1 p0.L]) :: mo b0_1 c_T_lecternref16_Entry p0.L :: O) ((q0, .cells [.int .i64 p0.Places, mslO 4 b0_1 p0.L]) :: mo b0_1 c_T_lecternref16_Entry p0.L :: O) := (.keep (.keep (.refl O)))
        exact ⟨(p0.Places, p0.L), hF, b0_1, zb0_1, (hwo.spec ok).1, WS.mk' (.cons (.refl _) (.cons (.refl _) (.cons (.refl _) (.cons (.refl _) .nil)))) ok hwo⟩
    ·
      rintro ⟨a49, a51⟩ s' hF ⟨g50, zg50, ok, hws⟩
      refine WP_ws hws ?_
      clear hws s'
      refine C_seq ?_
      refine C_reg (mdl [(105, 1)]) ?_
      refine S_m (v := .ptr _ _) rfl ?_
      refine S_m (v := .ptr _ _) rfl ?_
      refine S_nilc (v := .ptr _ _) rfl rfl ?_
      refine S_faP rfl ty_fd_46_1 ty_sz_44 ?_
      refine S_ldP (j := 0) ok rfl rfl rfl hq0 (p_one (v := mslO 4 g50 a51) ty_ag_44 ty_sz_44 rfl) ?_
      refine S_m (v := .int _ _) rfl ?_
      refine S_m (v := .int _ _) rfl ?_
      refine S_m (v := .bool _) rfl ?_
      refine S_bld (v := .agg (c_T_lecternref16_Entry (⟨p1, p2, p3, (0 : Int)⟩ : T_lecternref16_Entry))) (b_st ty_zc_76 ty_pl_76 rfl) ?_
      refine S_lit0 (cs := [.int .i64 (⟨p1, p2, p3, (0 : Int)⟩ : T_lecternref16_Entry).Key, .int .i64 (⟨p1, p2, p3, (0 : Int)⟩ : T_lecternref16_Entry).Value, .bool (⟨p1, p2, p3, (0 : Int)⟩ : T_lecternref16_Entry).Dirty, .int .i64 (⟨p1, p2, p3, (0 : Int)⟩ : T_lecternref16_Entry).Pins]) (es := (List.map c_T_lecternref16_Entry [(⟨p1, p2, p3, (0 : Int)⟩ : T_lecternref16_Entry)])) rfl ty_el_44 rfl (by kernel_rfl) (by kernel_rfl) ?_
      refine S_appO (j := 1) (M := [(⟨p1, p2, p3, (0 : Int)⟩ : T_lecternref16_Entry)]) ok zg50 rfl rfl src_sl (fun _ => rfl) rfl ty_el_44 ty_ni_44 hF ?_
      intro u83 zu83 ok hF
      obtain ⟨a84, ha84, hF⟩ := F_let hF
      rw [← ha84] at ok zu83
      rw [← ha84]
      refine S_nilc (v := .ptr _ _) rfl rfl ?_
      refine S_faP rfl ty_fd_46_1 ty_sz_44 ?_
      refine S_stB (j := 0) (cs' := [.int .i64 a49, mslO 4 u83 a84]) ok rfl rfl rfl hq0 ty_sz_44 rfl rfl (fun ok => ?_)
      refine S_nil ?_
      refine C_seq ?_
      refine C_reg (mdl []) ?_
      refine S_a (v := .int _ _) rfl ?_
      refine S_nil ?_
      refine WP_ret ?_
      repeat (first | with_reducible refine Exit.sel_ret ?_ | with_reducible refine Exit.blk_ret ?_)
      have hwo : WO ((q0, .cells [.int .i64 a49, mslO 4 u83 a84]) :: mo u83 c_T_lecternref16_Entry a84 :: O) ((q0, .cells [.int .i64 a49, mslO 4 u83 a84]) :: mo u83 c_T_lecternref16_Entry a84 :: O) := (.keep (.keep (.refl O)))
      refine C_ret (fn := Try.f41) rfl (.tmp (v := .int .i64 (0 : Int)) rfl .nil) ?_
      exact ⟨_, _, (.refl _), (hwo.spec ok).2.2, _, F_some hF, rfl, u83, zu83, (hwo.spec ok).1, rfl⟩
theorem F_lecternref16_Cache_Put_ok {β : Type} {f0 : Int × T_lecternref16_Cache → Option β} {G : β → Prop} {R : D → Heap → Prop} {p0 : T_lecternref16_Cache} {p1 : Int} {p2 : Int} {p3 : Bool} {q0 : Nat} {b0_1 : Nat} (h : Heap) (O : List (Nat × AObj)) (hq0 : q0 ≠ 0) (zb0_1 : b0_1 = 0 → p0.L = []) (ok : OK h ((q0, .cells [.int .i64 p0.Places, mslO 4 b0_1 p0.L]) :: mo b0_1 c_T_lecternref16_Entry p0.L :: O)) (hF : OptP ((F_lecternref16_Cache_Put p0 p1 p2 p3).bind f0) G) (hk : ∀ r b0_1', F_lecternref16_Cache_Put p0 p1 p2 p3 = some r → (b0_1' = 0 → r.2.L = []) → OK h ((q0, .cells [.int .i64 r.2.Places, mslO 4 b0_1' r.2.L]) :: mo b0_1' c_T_lecternref16_Entry r.2.L :: O) → OptP (f0 r) G → R (.int .i64 r.1) (Hp h ((q0, .cells [.int .i64 r.2.Places, mslO 4 b0_1' r.2.L]) :: mo b0_1' c_T_lecternref16_Entry r.2.L :: O))) : CallsA Try.prog 41 [.ptr q0 0, .int .i64 p1, .int .i64 p2, .bool p3] (Hp h ((q0, .cells [.int .i64 p0.Places, mslO 4 b0_1 p0.L]) :: mo b0_1 c_T_lecternref16_Entry p0.L :: O)) R := by
  obtain ⟨r0, hr, hF⟩ := F_bind hF
  refine (F_lecternref16_Cache_Put_w (G := fun r => r = r0) p0 p1 p2 p3 q0 b0_1 h O hq0 zb0_1 ok ⟨r0, hr, rfl⟩).mono ?_
  rintro _ _ ⟨r, rfl, rfl, b0_1', y0, ok', rfl⟩
  exact hk _ _ hr y0 ok' hF
theorem F_lecternref16_Cache_Drop_w (p0 : T_lecternref16_Cache) (p1 : Int) (q0 : Nat) (b0_1 : Nat) {G : Bool × T_lecternref16_Cache → Prop} (h : Heap) (O : List (Nat × AObj)) (hq0 : q0 ≠ 0) (zb0_1 : b0_1 = 0 → p0.L = []) (ok : OK h ((q0, .cells [.int .i64 p0.Places, mslO 4 b0_1 p0.L]) :: mo b0_1 c_T_lecternref16_Entry p0.L :: O)) (hF : OptP (F_lecternref16_Cache_Drop p0 p1) G) : CallsA Try.prog 42 [.ptr q0 0, .int .i64 p1] (Hp h ((q0, .cells [.int .i64 p0.Places, mslO 4 b0_1 p0.L]) :: mo b0_1 c_T_lecternref16_Entry p0.L :: O)) fun d h' => ∃ r, G r ∧ d = .bool r.1 ∧ ∃ b0_1' : Nat, (b0_1' = 0 → r.2.L = []) ∧ OK h ((q0, .cells [.int .i64 r.2.Places, mslO 4 b0_1' r.2.L]) :: mo b0_1' c_T_lecternref16_Entry r.2.L :: O) ∧ h' = Hp h ((q0, .cells [.int .i64 r.2.Places, mslO 4 b0_1' r.2.L]) :: mo b0_1' c_T_lecternref16_Entry r.2.L :: O) := by
  refine CallsA.ret ?_
  refine C_bodyO Try.func42 rfl en_42 Try.ntmps42 rfl ?_
  rw [F_lecternref16_Cache_Drop] at hF
  refine C_seq ?_
  refine C_reg (mdl []) ?_
  refine S_a (v := .bool _) rfl ?_
  refine S_nil ?_
  refine C_seq ?_
  refine C_reg (mdl []) ?_
  refine S_m (v := .ptr _ _) rfl ?_
  refine S_m (v := .int _ _) rfl ?_
  obtain ⟨hpe, ok⟩ := Hp_pull 1 ok rfl
  rw [hpe]; clear hpe
  obtain ⟨hpe, ok⟩ := Hp_pull 1 ok rfl
  rw [hpe]; clear hpe
  refine S_call (F_lecternref16_Cache_find_ok (q0 := q0) (b0_1 := b0_1) h (O) hq0 zb0_1 ok hF fun x1 _  ok hF => ?_) (.cons (.refl _) (.cons (.refl _) (.nil)))
  refine S_a (v := .int _ _) rfl ?_
  refine S_nil ?_
  refine C_seq ?_
  refine C_seq ?_
  refine C_reg (mdl []) ?_
  refine S_m (v := .int _ _) rfl ?_
  refine S_bin rfl rfl (ev_lss ..) ?_
  refine S_m (v := .bool _) rfl ?_
  refine S_twoJ 10 21 hF (fun J3 hb2 hF => ?_) (fun J3 hb2 hF => ?_) (fun v4 hF => ?_)
  ·
    refine S_off rfl rfl hb2 ?_
    refine S_offD ?_
    refine S_off rfl rfl hb2 ?_
    refine S_offD ?_
    refine S_off rfl rfl hb2 ?_
    refine S_offD ?_
    refine S_off rfl rfl hb2 ?_
    refine S_offD ?_
    refine S_off rfl rfl hb2 ?_
    refine S_offD ?_
    refine S_off rfl rfl hb2 ?_
    refine S_offD ?_
    refine S_off rfl rfl hb2 ?_
    refine S_offD ?_
    refine S_off rfl rfl hb2 ?_
    refine S_offD ?_
    refine S_off rfl rfl hb2 ?_
    refine S_offD ?_
    refine S_pickT (v := .bool _) rfl hb2 rfl ?_
    refine S_nil ?_
    refine ⟨_, hF, .hd (.refl _) ?_⟩
    repeat (first | with_reducible exact WS.refl _ | refine WS.add ?_ rfl)
  ·
    refine S_on rfl rfl hb2 ?_
    refine S_in ?_
    refine S_m (v := .ptr _ _) rfl ?_
    refine S_nil ?_
    refine S_on rfl rfl hb2 ?_
    refine S_in ?_
    refine S_nilc (v := .ptr _ _) rfl rfl ?_
    refine S_nil ?_
    refine S_on rfl rfl hb2 ?_
    refine S_in ?_
    refine S_faP rfl ty_fd_46_1 ty_sz_44 ?_
    refine S_nil ?_
    refine S_on rfl rfl hb2 ?_
    refine S_in ?_
    refine S_ldP (j := 0) ok rfl rfl rfl hq0 (p_one (v := mslO 4 b0_1 p0.L) ty_ag_44 ty_sz_44 rfl) ?_
    refine S_nil ?_
    refine S_on rfl rfl hb2 ?_
    refine S_in ?_
    refine S_m (v := .int _ _) rfl ?_
    refine S_nil ?_
    refine S_on rfl rfl hb2 ?_
    refine S_in ?_
    refine S_ixO zb0_1 rfl rfl ty_sl_44 ty_sz_76 hF (fun x5 hx5 hF => ?_)
    refine S_nil ?_
    refine S_on rfl rfl hb2 ?_
    refine S_in ?_
    refine S_faP rfl ty_fd_76_3 ty_sz_3 ?_
    refine S_nil ?_
    refine S_on rfl rfl hb2 ?_
    refine S_in ?_
    refine S_ldO (q := 4) (j := 1) (f0 := 3) ok rfl zb0_1 rfl rfl (fun _ => rfl) hx5 rfl rfl (p_one ty_ag_3 ty_sz_3 rfl) ?_
    refine S_nil ?_
    refine S_on rfl rfl hb2 ?_
    refine S_in ?_
    refine S_bin rfl rfl (ev_gtr ..) ?_
    refine S_nil ?_
    refine S_pickF (v := .bool _) rfl hb2 rfl ?_
    refine S_nil ?_
    refine ⟨_, hF, .hd (.refl _) ?_⟩
    repeat (first | with_reducible exact WS.refl _ | refine WS.add ?_ rfl)
  ·
    refine S_nil ?_
    refine C_if (b := v4) rfl hF (fun hb6 hF => ?_) (fun hb6 hF => ?_)
    ·
      refine C_seq ?_
      refine C_reg (mdl []) ?_
      refine S_a (v := .bool _) rfl ?_
      refine S_nil ?_
      refine WP_ret ?_
      repeat (first | with_reducible refine Exit.sel_ret ?_ | with_reducible refine Exit.blk_ret ?_)
      have hwo : WO ((q0, .cells [.int .i64 p0.Places, mslO 4 b0_1 p0.L]) :: mo b0_1 c_T_lecternref16_Entry p0.L :: O) ((q0, .cells [.int .i64 p0.Places, mslO 4 b0_1 p0.L]) :: mo b0_1 c_T_lecternref16_Entry p0.L :: O) := (.keep (.keep (.refl O)))
      refine C_ret (fn := Try.f42) rfl (.tmp (v := .bool false) rfl .nil) ?_
      exact ⟨_, _, (.refl _), (hwo.spec ok).2.2, _, F_some hF, rfl, b0_1, zb0_1, (hwo.spec ok).1, rfl⟩
    ·
      refine WP_skip ?_
      refine C_seq ?_
      refine C_reg (mdl []) ?_
      refine S_m (v := .ptr _ _) rfl ?_
      refine S_m (v := .int _ _) rfl ?_
      obtain ⟨hpe, ok⟩ := Hp_pull 1 ok rfl
      rw [hpe]; clear hpe
      obtain ⟨hpe, ok⟩ := Hp_pull 1 ok rfl
      rw [hpe]; clear hpe
      refine S_call (F_lecternref16_Cache_out_ok (q0 := q0) (b0_1 := b0_1) h (O) hq0 zb0_1 ok hF fun x7 u8 _ zu8 ok hF => ?_) (.cons (.refl _) (.cons (.refl _) (.nil)))
      refine S_nil ?_
      refine C_seq ?_
      refine C_reg (mdl []) ?_
      refine S_a (v := .bool _) rfl ?_
      refine S_nil ?_
      refine WP_ret ?_
      repeat (first | with_reducible refine Exit.sel_ret ?_ | with_reducible refine Exit.blk_ret ?_)
      have hwo : WO ((q0, .cells [.int .i64 x7.Places, mslO 4 u8 x7.L]) :: mo u8 c_T_lecternref16_Entry x7.L :: O) ((q0, .cells [.int .i64 x7.Places, mslO 4 u8 x7.L]) :: mo u8 c_T_lecternref16_Entry x7.L :: O) := (.keep (.keep (.refl O)))
      refine C_ret (fn := Try.f42) rfl (.tmp (v := .bool true) rfl .nil) ?_
      exact ⟨_, _, (.refl _), (hwo.spec ok).2.2, _, F_some hF, rfl, u8, zu8, (hwo.spec ok).1, rfl⟩
theorem F_lecternref16_Cache_Drop_ok {β : Type} {f0 : Bool × T_lecternref16_Cache → Option β} {G : β → Prop} {R : D → Heap → Prop} {p0 : T_lecternref16_Cache} {p1 : Int} {q0 : Nat} {b0_1 : Nat} (h : Heap) (O : List (Nat × AObj)) (hq0 : q0 ≠ 0) (zb0_1 : b0_1 = 0 → p0.L = []) (ok : OK h ((q0, .cells [.int .i64 p0.Places, mslO 4 b0_1 p0.L]) :: mo b0_1 c_T_lecternref16_Entry p0.L :: O)) (hF : OptP ((F_lecternref16_Cache_Drop p0 p1).bind f0) G) (hk : ∀ r b0_1', F_lecternref16_Cache_Drop p0 p1 = some r → (b0_1' = 0 → r.2.L = []) → OK h ((q0, .cells [.int .i64 r.2.Places, mslO 4 b0_1' r.2.L]) :: mo b0_1' c_T_lecternref16_Entry r.2.L :: O) → OptP (f0 r) G → R (.bool r.1) (Hp h ((q0, .cells [.int .i64 r.2.Places, mslO 4 b0_1' r.2.L]) :: mo b0_1' c_T_lecternref16_Entry r.2.L :: O))) : CallsA Try.prog 42 [.ptr q0 0, .int .i64 p1] (Hp h ((q0, .cells [.int .i64 p0.Places, mslO 4 b0_1 p0.L]) :: mo b0_1 c_T_lecternref16_Entry p0.L :: O)) R := by
  obtain ⟨r0, hr, hF⟩ := F_bind hF
  refine (F_lecternref16_Cache_Drop_w (G := fun r => r = r0) p0 p1 q0 b0_1 h O hq0 zb0_1 ok ⟨r0, hr, rfl⟩).mono ?_
  rintro _ _ ⟨r, rfl, rfl, b0_1', y0, ok', rfl⟩
  exact hk _ _ hr y0 ok' hF
theorem F_lecternref16_Cache_Pin_w (p0 : T_lecternref16_Cache) (p1 : Int) (p2 : Int) (q0 : Nat) (b0_1 : Nat) {G : Bool × T_lecternref16_Cache → Prop} (h : Heap) (O : List (Nat × AObj)) (hq0 : q0 ≠ 0) (zb0_1 : b0_1 = 0 → p0.L = []) (ok : OK h ((q0, .cells [.int .i64 p0.Places, mslO 4 b0_1 p0.L]) :: mo b0_1 c_T_lecternref16_Entry p0.L :: O)) (hF : OptP (F_lecternref16_Cache_Pin p0 p1 p2) G) : CallsA Try.prog 43 [.ptr q0 0, .int .i64 p1, .int .i64 p2] (Hp h ((q0, .cells [.int .i64 p0.Places, mslO 4 b0_1 p0.L]) :: mo b0_1 c_T_lecternref16_Entry p0.L :: O)) fun d h' => ∃ r, G r ∧ d = .bool r.1 ∧ ∃ b0_1' : Nat, (b0_1' = 0 → r.2.L = []) ∧ OK h ((q0, .cells [.int .i64 r.2.Places, mslO 4 b0_1' r.2.L]) :: mo b0_1' c_T_lecternref16_Entry r.2.L :: O) ∧ h' = Hp h ((q0, .cells [.int .i64 r.2.Places, mslO 4 b0_1' r.2.L]) :: mo b0_1' c_T_lecternref16_Entry r.2.L :: O) := by
  refine CallsA.ret ?_
  refine C_bodyO Try.func43 rfl en_43 Try.ntmps43 rfl ?_
  rw [F_lecternref16_Cache_Pin] at hF
  refine C_seq ?_
  refine C_reg (mdl []) ?_
  refine S_a (v := .bool _) rfl ?_
  refine S_nil ?_
  refine C_seq ?_
  refine C_reg (mdl []) ?_
  refine S_m (v := .ptr _ _) rfl ?_
  refine S_m (v := .int _ _) rfl ?_
  obtain ⟨hpe, ok⟩ := Hp_pull 1 ok rfl
  rw [hpe]; clear hpe
  obtain ⟨hpe, ok⟩ := Hp_pull 1 ok rfl
  rw [hpe]; clear hpe
  refine S_call (F_lecternref16_Cache_find_ok (q0 := q0) (b0_1 := b0_1) h (O) hq0 zb0_1 ok hF fun x1 _  ok hF => ?_) (.cons (.refl _) (.cons (.refl _) (.nil)))
  refine S_a (v := .int _ _) rfl ?_
  refine S_nil ?_
  refine C_seq ?_
  refine C_seq ?_
  refine C_reg (mdl []) ?_
  refine S_m (v := .int _ _) rfl ?_
  refine S_bin rfl rfl (ev_lss ..) ?_
  refine S_m (v := .bool _) rfl ?_
  refine S_twoJ 12 25 hF (fun J3 hb2 hF => ?_) (fun J3 hb2 hF => ?_) (fun v4 hF => ?_)
  ·
    refine S_off rfl rfl hb2 ?_
    refine S_offD ?_
    refine S_off rfl rfl hb2 ?_
    refine S_offD ?_
    refine S_off rfl rfl hb2 ?_
    refine S_offD ?_
    refine S_off rfl rfl hb2 ?_
    refine S_offD ?_
    refine S_off rfl rfl hb2 ?_
    refine S_offD ?_
    refine S_off rfl rfl hb2 ?_
    refine S_offD ?_
    refine S_off rfl rfl hb2 ?_
    refine S_offD ?_
    refine S_off rfl rfl hb2 ?_
    refine S_offD ?_
    refine S_off rfl rfl hb2 ?_
    refine S_offD ?_
    refine S_off rfl rfl hb2 ?_
    refine S_offD ?_
    refine S_off rfl rfl hb2 ?_
    refine S_offD ?_
    refine S_pickT (v := .bool _) rfl hb2 rfl ?_
    refine S_nil ?_
    refine ⟨_, hF, .hd (.refl _) ?_⟩
    repeat (first | with_reducible exact WS.refl _ | refine WS.add ?_ rfl)
  ·
    refine S_on rfl rfl hb2 ?_
    refine S_in ?_
    refine S_m (v := .ptr _ _) rfl ?_
    refine S_nil ?_
    refine S_on rfl rfl hb2 ?_
    refine S_in ?_
    refine S_nilc (v := .ptr _ _) rfl rfl ?_
    refine S_nil ?_
    refine S_on rfl rfl hb2 ?_
    refine S_in ?_
    refine S_faP rfl ty_fd_46_1 ty_sz_44 ?_
    refine S_nil ?_
    refine S_on rfl rfl hb2 ?_
    refine S_in ?_
    refine S_ldP (j := 0) ok rfl rfl rfl hq0 (p_one (v := mslO 4 b0_1 p0.L) ty_ag_44 ty_sz_44 rfl) ?_
    refine S_nil ?_
    refine S_on rfl rfl hb2 ?_
    refine S_in ?_
    refine S_m (v := .int _ _) rfl ?_
    refine S_nil ?_
    refine S_on rfl rfl hb2 ?_
    refine S_in ?_
    refine S_ixO zb0_1 rfl rfl ty_sl_44 ty_sz_76 hF (fun x5 hx5 hF => ?_)
    refine S_nil ?_
    refine S_on rfl rfl hb2 ?_
    refine S_in ?_
    refine S_faP rfl ty_fd_76_3 ty_sz_3 ?_
    refine S_nil ?_
    refine S_on rfl rfl hb2 ?_
    refine S_in ?_
    refine S_ldO (q := 4) (j := 1) (f0 := 3) ok rfl zb0_1 rfl rfl (fun _ => rfl) hx5 rfl rfl (p_one ty_ag_3 ty_sz_3 rfl) ?_
    refine S_nil ?_
    refine S_on rfl rfl hb2 ?_
    refine S_in ?_
    refine S_m (v := .int _ _) rfl ?_
    refine S_nil ?_
    refine S_on rfl rfl hb2 ?_
    refine S_in ?_
    refine S_bin rfl rfl (ev_add ..) ?_
    refine S_nil ?_
    refine S_on rfl rfl hb2 ?_
    refine S_in ?_
    refine S_bin rfl rfl (ev_lss ..) ?_
    refine S_nil ?_
    refine S_pickF (v := .bool _) rfl hb2 rfl ?_
    refine S_nil ?_
    refine ⟨_, hF, .hd (.refl _) ?_⟩
    repeat (first | with_reducible exact WS.refl _ | refine WS.add ?_ rfl)
  ·
    refine S_nil ?_
    refine C_if (b := v4) rfl hF (fun hb6 hF => ?_) (fun hb6 hF => ?_)
    ·
      refine C_seq ?_
      refine C_reg (mdl []) ?_
      refine S_a (v := .bool _) rfl ?_
      refine S_nil ?_
      refine WP_ret ?_
      repeat (first | with_reducible refine Exit.sel_ret ?_ | with_reducible refine Exit.blk_ret ?_)
      have hwo : WO ((q0, .cells [.int .i64 p0.Places, mslO 4 b0_1 p0.L]) :: mo b0_1 c_T_lecternref16_Entry p0.L :: O) ((q0, .cells [.int .i64 p0.Places, mslO 4 b0_1 p0.L]) :: mo b0_1 c_T_lecternref16_Entry p0.L :: O) := (.keep (.keep (.refl O)))
      refine C_ret (fn := Try.f43) rfl (.tmp (v := .bool false) rfl .nil) ?_
      exact ⟨_, _, (.refl _), (hwo.spec ok).2.2, _, F_some hF, rfl, b0_1, zb0_1, (hwo.spec ok).1, rfl⟩
    ·
      refine WP_skip ?_
      refine C_seq ?_
      refine C_drw (mdl []) (by kernel_rfl) (by kernel_rfl) ?_
      refine S_m (v := .ptr _ _) rfl ?_
      refine S_nilc (v := .ptr _ _) rfl rfl ?_
      refine S_faP rfl ty_fd_46_1 ty_sz_44 ?_
      refine S_ldP (j := 0) ok rfl rfl rfl hq0 (p_one (v := mslO 4 b0_1 p0.L) ty_ag_44 ty_sz_44 rfl) ?_
      refine S_m (v := .int _ _) rfl ?_
      refine S_m (v := .ptr _ _) rfl ?_
      refine S_nilc (v := .ptr _ _) rfl rfl ?_
      refine S_faP rfl ty_fd_46_1 ty_sz_44 ?_
      refine S_ldP (j := 0) ok rfl rfl rfl hq0 (p_one (v := mslO 4 b0_1 p0.L) ty_ag_44 ty_sz_44 rfl) ?_
      refine S_m (v := .int _ _) rfl ?_
      refine S_ixO zb0_1 rfl rfl ty_sl_44 ty_sz_76 hF (fun x7 hx7 hF => ?_)
      refine S_faP rfl ty_fd_76_3 ty_sz_3 ?_
      refine S_ldO (q := 4) (j := 1) (f0 := 3) ok rfl zb0_1 rfl rfl (fun _ => rfl) hx7 rfl rfl (p_one ty_ag_3 ty_sz_3 rfl) ?_
      refine S_m (v := .int _ _) rfl ?_
      refine S_bin rfl rfl (ev_add ..) ?_
      refine S_ixO zb0_1 rfl rfl ty_sl_44 ty_sz_76 hF (fun x8 hx8 hF => ?_)
      refine S_faP rfl ty_fd_76_3 ty_sz_3 ?_
      refine S_stO (q := 4) (j := 1) (f0 := 3) (b := (⟨x8.Key, x8.Value, x8.Dirty, (IntKind.wrap .i64 (x7.Pins + p2))⟩ : T_lecternref16_Entry)) ok zb0_1 rfl rfl rfl (fun _ => rfl) hx8 rfl rfl ty_sz_3 rfl rfl (fun za9 ok => ?_)
      obtain ⟨a9, ha9, hF⟩ := F_let hF
      rw [← ha9] at ok za9
      rw [← ha9]
      have hms : mslO 4 b0_1 p0.L = mslO 4 b0_1 a9 := mslO_len (by rw [ha9, List.length_set])
      try rw [hms] at ok
      try rw [hms]
      clear hms
      refine S_nil ?_
      refine C_seq ?_
      refine C_reg (mdl []) ?_
      refine S_a (v := .bool _) rfl ?_
      refine S_nil ?_
      refine WP_ret ?_
      repeat (first | with_reducible refine Exit.sel_ret ?_ | with_reducible refine Exit.blk_ret ?_)
      have hwo : WO ((q0, .cells [.int .i64 p0.Places, mslO 4 b0_1 a9]) :: mo b0_1 c_T_lecternref16_Entry a9 :: O) ((q0, .cells [.int .i64 p0.Places, mslO 4 b0_1 a9]) :: mo b0_1 c_T_lecternref16_Entry a9 :: O) := (.keep (.keep (.refl O)))
      refine C_ret (fn := Try.f43) rfl (.tmp (v := .bool true) rfl .nil) ?_
      exact ⟨_, _, (.refl _), (hwo.spec ok).2.2, _, F_some hF, rfl, b0_1, za9, (hwo.spec ok).1, rfl⟩
theorem F_lecternref16_Cache_Pin_ok {β : Type} {f0 : Bool × T_lecternref16_Cache → Option β} {G : β → Prop} {R : D → Heap → Prop} {p0 : T_lecternref16_Cache} {p1 : Int} {p2 : Int} {q0 : Nat} {b0_1 : Nat} (h : Heap) (O : List (Nat × AObj)) (hq0 : q0 ≠ 0) (zb0_1 : b0_1 = 0 → p0.L = []) (ok : OK h ((q0, .cells [.int .i64 p0.Places, mslO 4 b0_1 p0.L]) :: mo b0_1 c_T_lecternref16_Entry p0.L :: O)) (hF : OptP ((F_lecternref16_Cache_Pin p0 p1 p2).bind f0) G) (hk : ∀ r b0_1', F_lecternref16_Cache_Pin p0 p1 p2 = some r → (b0_1' = 0 → r.2.L = []) → OK h ((q0, .cells [.int .i64 r.2.Places, mslO 4 b0_1' r.2.L]) :: mo b0_1' c_T_lecternref16_Entry r.2.L :: O) → OptP (f0 r) G → R (.bool r.1) (Hp h ((q0, .cells [.int .i64 r.2.Places, mslO 4 b0_1' r.2.L]) :: mo b0_1' c_T_lecternref16_Entry r.2.L :: O))) : CallsA Try.prog 43 [.ptr q0 0, .int .i64 p1, .int .i64 p2] (Hp h ((q0, .cells [.int .i64 p0.Places, mslO 4 b0_1 p0.L]) :: mo b0_1 c_T_lecternref16_Entry p0.L :: O)) R := by
  obtain ⟨r0, hr, hF⟩ := F_bind hF
  refine (F_lecternref16_Cache_Pin_w (G := fun r => r = r0) p0 p1 p2 q0 b0_1 h O hq0 zb0_1 ok ⟨r0, hr, rfl⟩).mono ?_
  rintro _ _ ⟨r, rfl, rfl, b0_1', y0, ok', rfl⟩
  exact hk _ _ hr y0 ok' hF
theorem F_lecternref16_Cache_Clean_w (p0 : T_lecternref16_Cache) (p1 : Int) (q0 : Nat) (b0_1 : Nat) {G : Bool × T_lecternref16_Cache → Prop} (h : Heap) (O : List (Nat × AObj)) (hq0 : q0 ≠ 0) (zb0_1 : b0_1 = 0 → p0.L = []) (ok : OK h ((q0, .cells [.int .i64 p0.Places, mslO 4 b0_1 p0.L]) :: mo b0_1 c_T_lecternref16_Entry p0.L :: O)) (hF : OptP (F_lecternref16_Cache_Clean p0 p1) G) : CallsA Try.prog 44 [.ptr q0 0, .int .i64 p1] (Hp h ((q0, .cells [.int .i64 p0.Places, mslO 4 b0_1 p0.L]) :: mo b0_1 c_T_lecternref16_Entry p0.L :: O)) fun d h' => ∃ r, G r ∧ d = .bool r.1 ∧ ∃ b0_1' : Nat, (b0_1' = 0 → r.2.L = []) ∧ OK h ((q0, .cells [.int .i64 r.2.Places, mslO 4 b0_1' r.2.L]) :: mo b0_1' c_T_lecternref16_Entry r.2.L :: O) ∧ h' = Hp h ((q0, .cells [.int .i64 r.2.Places, mslO 4 b0_1' r.2.L]) :: mo b0_1' c_T_lecternref16_Entry r.2.L :: O) := by
  refine CallsA.ret ?_
  refine C_bodyO Try.func44 rfl en_44 Try.ntmps44 rfl ?_
  rw [F_lecternref16_Cache_Clean] at hF
  refine C_seq ?_
  refine C_reg (mdl []) ?_
  refine S_a (v := .bool _) rfl ?_
  refine S_nil ?_
  refine C_seq ?_
  refine C_reg (mdl []) ?_
  refine S_m (v := .ptr _ _) rfl ?_
  refine S_m (v := .int _ _) rfl ?_
  obtain ⟨hpe, ok⟩ := Hp_pull 1 ok rfl
  rw [hpe]; clear hpe
  obtain ⟨hpe, ok⟩ := Hp_pull 1 ok rfl
  rw [hpe]; clear hpe
  refine S_call (F_lecternref16_Cache_find_ok (q0 := q0) (b0_1 := b0_1) h (O) hq0 zb0_1 ok hF fun x1 _  ok hF => ?_) (.cons (.refl _) (.cons (.refl _) (.nil)))
  refine S_a (v := .int _ _) rfl ?_
  refine S_nil ?_
  refine C_seq ?_
  refine C_seq ?_
  refine C_reg (mdl []) ?_
  refine S_m (v := .int _ _) rfl ?_
  refine S_bin rfl rfl (ev_lss ..) ?_
  refine S_m (v := .bool _) rfl ?_
  refine S_twoJ 10 21 hF (fun J3 hb2 hF => ?_) (fun J3 hb2 hF => ?_) (fun v4 hF => ?_)
  ·
    refine S_off rfl rfl hb2 ?_
    refine S_offD ?_
    refine S_off rfl rfl hb2 ?_
    refine S_offD ?_
    refine S_off rfl rfl hb2 ?_
    refine S_offD ?_
    refine S_off rfl rfl hb2 ?_
    refine S_offD ?_
    refine S_off rfl rfl hb2 ?_
    refine S_offD ?_
    refine S_off rfl rfl hb2 ?_
    refine S_offD ?_
    refine S_off rfl rfl hb2 ?_
    refine S_offD ?_
    refine S_off rfl rfl hb2 ?_
    refine S_offD ?_
    refine S_off rfl rfl hb2 ?_
    refine S_offD ?_
    refine S_pickT (v := .bool _) rfl hb2 rfl ?_
    refine S_nil ?_
    refine ⟨_, hF, .hd (.refl _) ?_⟩
    repeat (first | with_reducible exact WS.refl _ | refine WS.add ?_ rfl)
  ·
    refine S_on rfl rfl hb2 ?_
    refine S_in ?_
    refine S_m (v := .ptr _ _) rfl ?_
    refine S_nil ?_
    refine S_on rfl rfl hb2 ?_
    refine S_in ?_
    refine S_nilc (v := .ptr _ _) rfl rfl ?_
    refine S_nil ?_
    refine S_on rfl rfl hb2 ?_
    refine S_in ?_
    refine S_faP rfl ty_fd_46_1 ty_sz_44 ?_
    refine S_nil ?_
    refine S_on rfl rfl hb2 ?_
    refine S_in ?_
    refine S_ldP (j := 0) ok rfl rfl rfl hq0 (p_one (v := mslO 4 b0_1 p0.L) ty_ag_44 ty_sz_44 rfl) ?_
    refine S_nil ?_
    refine S_on rfl rfl hb2 ?_
    refine S_in ?_
    refine S_m (v := .int _ _) rfl ?_
    refine S_nil ?_
    refine S_on rfl rfl hb2 ?_
    refine S_in ?_
    refine S_ixO zb0_1 rfl rfl ty_sl_44 ty_sz_76 hF (fun x5 hx5 hF => ?_)
    refine S_nil ?_
    refine S_on rfl rfl hb2 ?_
    refine S_in ?_
    refine S_faP rfl ty_fd_76_2 ty_sz_4 ?_
    refine S_nil ?_
    refine S_on rfl rfl hb2 ?_
    refine S_in ?_
    refine S_ldO (q := 4) (j := 1) (f0 := 2) ok rfl zb0_1 rfl rfl (fun _ => rfl) hx5 rfl rfl (p_one ty_ag_4 ty_sz_4 rfl) ?_
    refine S_nil ?_
    refine S_on rfl rfl hb2 ?_
    refine S_in ?_
    refine S_un rfl (ev_not _) ?_
    refine S_nil ?_
    refine S_pickF (v := .bool _) rfl hb2 rfl ?_
    refine S_nil ?_
    refine ⟨_, hF, .hd (.refl _) ?_⟩
    repeat (first | with_reducible exact WS.refl _ | refine WS.add ?_ rfl)
  ·
    refine S_nil ?_
    refine C_if (b := v4) rfl hF (fun hb6 hF => ?_) (fun hb6 hF => ?_)
    ·
      refine C_seq ?_
      refine C_reg (mdl []) ?_
      refine S_a (v := .bool _) rfl ?_
      refine S_nil ?_
      refine WP_ret ?_
      repeat (first | with_reducible refine Exit.sel_ret ?_ | with_reducible refine Exit.blk_ret ?_)
      have hwo : WO ((q0, .cells [.int .i64 p0.Places, mslO 4 b0_1 p0.L]) :: mo b0_1 c_T_lecternref16_Entry p0.L :: O) ((q0, .cells [.int .i64 p0.Places, mslO 4 b0_1 p0.L]) :: mo b0_1 c_T_lecternref16_Entry p0.L :: O) := (.keep (.keep (.refl O)))
      refine C_ret (fn := Try.f44) rfl (.tmp (v := .bool false) rfl .nil) ?_
      exact ⟨_, _, (.refl _), (hwo.spec ok).2.2, _, F_some hF, rfl, b0_1, zb0_1, (hwo.spec ok).1, rfl⟩
    ·
      refine WP_skip ?_
      refine C_seq ?_
      refine C_reg (mdl []) ?_
      refine S_m (v := .ptr _ _) rfl ?_
      refine S_nilc (v := .ptr _ _) rfl rfl ?_
      refine S_faP rfl ty_fd_46_1 ty_sz_44 ?_
      refine S_ldP (j := 0) ok rfl rfl rfl hq0 (p_one (v := mslO 4 b0_1 p0.L) ty_ag_44 ty_sz_44 rfl) ?_
      refine S_m (v := .int _ _) rfl ?_
      refine S_ixO zb0_1 rfl rfl ty_sl_44 ty_sz_76 hF (fun x7 hx7 hF => ?_)
      refine S_faP rfl ty_fd_76_2 ty_sz_4 ?_
      refine S_stO (q := 4) (j := 1) (f0 := 2) (b := (⟨x7.Key, x7.Value, false, x7.Pins⟩ : T_lecternref16_Entry)) ok zb0_1 rfl rfl rfl (fun _ => rfl) hx7 rfl rfl ty_sz_4 rfl rfl (fun za8 ok => ?_)
      obtain ⟨a8, ha8, hF⟩ := F_let hF
      rw [← ha8] at ok za8
      rw [← ha8]
      have hms : mslO 4 b0_1 p0.L = mslO 4 b0_1 a8 := mslO_len (by rw [ha8, List.length_set])
      try rw [hms] at ok
      try rw [hms]
      clear hms
      refine S_nil ?_
      refine C_seq ?_
      refine C_reg (mdl []) ?_
      refine S_a (v := .bool _) rfl ?_
      refine S_nil ?_
      refine WP_ret ?_
      repeat (first | with_reducible refine Exit.sel_ret ?_ | with_reducible refine Exit.blk_ret ?_)
      have hwo : WO ((q0, .cells [.int .i64 p0.Places, mslO 4 b0_1 a8]) :: mo b0_1 c_T_lecternref16_Entry a8 :: O) ((q0, .cells [.int .i64 p0.Places, mslO 4 b0_1 a8]) :: mo b0_1 c_T_lecternref16_Entry a8 :: O) := (.keep (.keep (.refl O)))
      refine C_ret (fn := Try.f44) rfl (.tmp (v := .bool true) rfl .nil) ?_
      exact ⟨_, _, (.refl _), (hwo.spec ok).2.2, _, F_some hF, rfl, b0_1, za8, (hwo.spec ok).1, rfl⟩
theorem F_lecternref16_Cache_Clean_ok {β : Type} {f0 : Bool × T_lecternref16_Cache → Option β} {G : β → Prop} {R : D → Heap → Prop} {p0 : T_lecternref16_Cache} {p1 : Int} {q0 : Nat} {b0_1 : Nat} (h : Heap) (O : List (Nat × AObj)) (hq0 : q0 ≠ 0) (zb0_1 : b0_1 = 0 → p0.L = []) (ok : OK h ((q0, .cells [.int .i64 p0.Places, mslO 4 b0_1 p0.L]) :: mo b0_1 c_T_lecternref16_Entry p0.L :: O)) (hF : OptP ((F_lecternref16_Cache_Clean p0 p1).bind f0) G) (hk : ∀ r b0_1', F_lecternref16_Cache_Clean p0 p1 = some r → (b0_1' = 0 → r.2.L = []) → OK h ((q0, .cells [.int .i64 r.2.Places, mslO 4 b0_1' r.2.L]) :: mo b0_1' c_T_lecternref16_Entry r.2.L :: O) → OptP (f0 r) G → R (.bool r.1) (Hp h ((q0, .cells [.int .i64 r.2.Places, mslO 4 b0_1' r.2.L]) :: mo b0_1' c_T_lecternref16_Entry r.2.L :: O))) : CallsA Try.prog 44 [.ptr q0 0, .int .i64 p1] (Hp h ((q0, .cells [.int .i64 p0.Places, mslO 4 b0_1 p0.L]) :: mo b0_1 c_T_lecternref16_Entry p0.L :: O)) R := by
  obtain ⟨r0, hr, hF⟩ := F_bind hF
  refine (F_lecternref16_Cache_Clean_w (G := fun r => r = r0) p0 p1 q0 b0_1 h O hq0 zb0_1 ok ⟨r0, hr, rfl⟩).mono ?_
  rintro _ _ ⟨r, rfl, rfl, b0_1', y0, ok', rfl⟩
  exact hk _ _ hr y0 ok' hF
theorem F_lecternlaw16_plays_w (p0 : List I.Ent) (p0n : Int) (p1 : T_lecternref16_Cache) (p2 : T_lecternlaw16_Op) (c0 : Nat) (f : List Nat) (q1 : Nat) (b1_1 : Nat) {G : Bool × (List I.Ent) × T_lecternref16_Cache → Prop} (h : Heap) (O : List (Nat × AObj)) (hC : I.CaL h c0 f p0n p0) (hq1 : q1 ≠ 0) (zb1_1 : b1_1 = 0 → p1.L = []) (ok : OK h ((q1, .cells [.int .i64 p1.Places, mslO 4 b1_1 p1.L]) :: mo b1_1 c_T_lecternref16_Entry p1.L :: O)) (hF : OptP (F_lecternlaw16_plays p0 p0n p1 p2) G) : CallsA Try.prog 19 [.ptr c0 0, .ptr q1 0, .agg (c_T_lecternlaw16_Op p2)] (Hp h ((q1, .cells [.int .i64 p1.Places, mslO 4 b1_1 p1.L]) :: mo b1_1 c_T_lecternref16_Entry p1.L :: O)) fun d h' => ∃ r, G r ∧ d = .bool r.1 ∧ ∃ (hb : Heap) (f' : List Nat), I.CaL hb c0 f' p0n r.2.1 ∧ ∃ b1_1' : Nat, (b1_1' = 0 → r.2.2.L = []) ∧ OK hb ((q1, .cells [.int .i64 r.2.2.Places, mslO 4 b1_1' r.2.2.L]) :: mo b1_1' c_T_lecternref16_Entry r.2.2.L :: O) ∧ h' = Hp hb ((q1, .cells [.int .i64 r.2.2.Places, mslO 4 b1_1' r.2.2.L]) :: mo b1_1' c_T_lecternref16_Entry r.2.2.L :: O) := by
  refine CallsA.ret ?_
  refine C_bodyO Try.func19 rfl en_19 Try.ntmps19 rfl ?_
  rw [F_lecternlaw16_plays] at hF
  refine C_seq ?_
  refine C_reg (mdl []) ?_
  refine S_box0 rfl rfl rfl rfl ?_
  refine S_a (v := .bool _) rfl ?_
  refine S_nil ?_
  refine C_seq ?_
  refine C_seq ?_
  refine C_reg (mdl []) ?_
  refine S_faQ rfl ty_fd_38_0 ty_sz_3 rfl ?_
  refine S_ldQ rfl (p_one ty_ag_3 ty_sz_3 rfl) ?_
  refine S_nil ?_
  refine WP_block ?_
  refine C_seq ?_
  refine C_reg (mdl []) ?_
  refine S_bin rfl rfl (ev_eql ..) ?_
  refine S_a (v := .bool _) rfl ?_
  refine S_nil ?_
  refine C_if (b := (p2.Kind == (0 : Int))) rfl hF (fun hb1 hF => ?_) (fun hb1 hF => ?_)
  ·
    refine C_seq ?_
    refine C_reg (mdl []) ?_
    refine S_m (v := .ptr _ _) rfl ?_
    refine S_faQ rfl ty_fd_38_1 ty_sz_3 rfl ?_
    refine S_ldQ rfl (p_one ty_ag_3 ty_sz_3 rfl) ?_
    refine I.S_get (k := p2.K) ok hC rfl rfl (fun m2 f3 ok hC => ?_)
    obtain ⟨a4, ha4, hF⟩ := F_let hF
    rw [← ha4] at hC
    refine S_m (v := .tup _) rfl ?_
    refine S_ext rfl rfl ?_
    refine S_ext rfl rfl ?_
    refine S_a (v := .int _ _) rfl ?_
    refine S_a (v := .bool _) rfl ?_
    refine S_nil ?_
    refine C_seq ?_
    refine C_reg (mdl []) ?_
    refine S_m (v := .ptr _ _) rfl ?_
    refine S_faQ rfl ty_fd_38_1 ty_sz_3 rfl ?_
    refine S_ldQ rfl (p_one ty_ag_3 ty_sz_3 rfl) ?_
    obtain ⟨hpe, ok⟩ := Hp_pull 1 ok rfl
    rw [hpe]; clear hpe
    obtain ⟨hpe, ok⟩ := Hp_pull 1 ok rfl
    rw [hpe]; clear hpe
    refine S_call (F_lecternref16_Cache_Get_ok (q0 := q1) (b0_1 := b1_1) m2 (O) hq1 zb1_1 ok hF fun x5 u6 _ zu6 ok hF => ?_) (.cons (.refl _) (.cons (.refl _) (.nil)))
    refine S_m (v := .tup _) rfl ?_
    refine S_ext rfl rfl ?_
    refine S_ext rfl rfl ?_
    refine S_a (v := .int _ _) rfl ?_
    refine S_a (v := .bool _) rfl ?_
    refine S_nil ?_
    refine C_seq ?_
    refine C_reg (mdl []) ?_
    refine S_m (v := .int _ _) rfl ?_
    refine S_m (v := .int _ _) rfl ?_
    refine S_bin rfl rfl (ev_eql ..) ?_
    refine S_m (v := .bool _) rfl ?_
    refine S_two (b := ((((I.fnd p2.K p0).map I.Ent.val).getD I.vz) == x5.1.1)) 4 36 (.bool (((((I.fnd p2.K p0).map I.Ent.val).getD I.vz) == x5.1.1) && ((I.fnd p2.K p0).isSome == x5.1.2))) (fun hb7 => ?_) (fun hb7 => ?_) ?_
    ·
      refine S_on rfl rfl hb7 ?_
      refine S_in ?_
      refine S_m (v := .bool _) rfl ?_
      refine S_nil ?_
      refine S_on rfl rfl hb7 ?_
      refine S_in ?_
      refine S_m (v := .bool _) rfl ?_
      refine S_nil ?_
      refine S_on rfl rfl hb7 ?_
      refine S_in ?_
      refine S_bin rfl rfl (e_beq ty_bo_4) ?_
      refine S_nil ?_
      refine S_pickT (v := .bool _) rfl hb7 rfl ?_
      refine S_nil ?_
      refine .hd (and_t hb7) ?_
      repeat (first | with_reducible exact WS.refl _ | refine WS.add ?_ rfl)
    ·
      refine S_off rfl rfl hb7 ?_
      refine S_offD ?_
      refine S_off rfl rfl hb7 ?_
      refine S_offD ?_
      refine S_off rfl rfl hb7 ?_
      refine S_offD ?_
      refine S_pickF (v := .bool _) rfl hb7 rfl ?_
      refine S_nil ?_
      refine .hd (and_f hb7) ?_
      repeat (first | with_reducible exact WS.refl _ | refine WS.add ?_ rfl)
    refine S_a (v := .bool _) rfl ?_
    refine S_nil ?_
    refine WP_ret ?_
    repeat (first | with_reducible refine Exit.sel_ret ?_ | with_reducible refine Exit.blk_ret ?_)
    have hwo : WO ((q1, .cells [.int .i64 x5.2.Places, mslO 4 u6 x5.2.L]) :: mo u6 c_T_lecternref16_Entry x5.2.L :: O) ((q1, .cells [.int .i64 x5.2.Places, mslO 4 u6 x5.2.L]) :: mo u6 c_T_lecternref16_Entry x5.2.L :: O) := (.keep (.keep (.refl O)))
    refine C_ret (fn := Try.f19) rfl (.tmp (v := .bool (((((I.fnd p2.K p0).map I.Ent.val).getD I.vz) == x5.1.1) && ((I.fnd p2.K p0).isSome == x5.1.2))) rfl .nil) ?_
    exact ⟨_, _, (.refl _), (hwo.spec ok).2.2, _, F_some hF, rfl, m2, f3, hC, u6, zu6, (hwo.spec ok).1, rfl⟩
  ·
    refine C_seq ?_
    refine C_reg (mdl []) ?_
    refine S_bin rfl rfl (ev_eql ..) ?_
    refine S_a (v := .bool _) rfl ?_
    refine S_nil ?_
    refine C_if (b := (p2.Kind == (1 : Int))) rfl hF (fun hb8 hF => ?_) (fun hb8 hF => ?_)
    ·
      refine C_seq ?_
      refine C_plan (mdl [(41, 3), (43, 3), (45, 3), (49, 3), (51, 3), (53, 3)]) [0, 1, 2, 3, 4, 5, 6, 8, 9, 10, 11, 12, 13, 14, 7, 15, 16, 17] [_, _, _, _, _, _, _, _, _, _, _, _, _, _, _, _, _, _] (by kernel_rfl) rfl rfl (by kernel_rfl) ?_
      refine S_m (v := .ptr _ _) rfl ?_
      refine S_faQ rfl ty_fd_38_1 ty_sz_3 rfl ?_
      refine S_ldQ rfl (p_one ty_ag_3 ty_sz_3 rfl) ?_
      refine S_faQ rfl ty_fd_38_2 ty_sz_3 rfl ?_
      refine S_ldQ rfl (p_one ty_ag_3 ty_sz_3 rfl) ?_
      refine S_faQ rfl ty_fd_38_3 ty_sz_4 rfl ?_
      refine S_ldQ rfl (p_one ty_ag_4 ty_sz_4 rfl) ?_
      refine S_m (v := .ptr _ _) rfl ?_
      refine S_faQ rfl ty_fd_38_1 ty_sz_3 rfl ?_
      refine S_ldQ rfl (p_one ty_ag_3 ty_sz_3 rfl) ?_
      refine S_faQ rfl ty_fd_38_2 ty_sz_3 rfl ?_
      refine S_ldQ rfl (p_one ty_ag_3 ty_sz_3 rfl) ?_
      refine S_faQ rfl ty_fd_38_3 ty_sz_4 rfl ?_
      refine S_ldQ rfl (p_one ty_ag_4 ty_sz_4 rfl) ?_
      refine I.S_put (k := p2.K) (v := p2.V) (b := p2.Dirty) ok hC rfl rfl rfl rfl (fun m9 f10 ok hC => ?_)
      obtain ⟨a11, ha11, hF⟩ := F_let hF
      rw [← ha11] at hC
      obtain ⟨hpe, ok⟩ := Hp_pull 1 ok rfl
      rw [hpe]; clear hpe
      obtain ⟨hpe, ok⟩ := Hp_pull 1 ok rfl
      rw [hpe]; clear hpe
      refine S_call (F_lecternref16_Cache_Put_ok (q0 := q1) (b0_1 := b1_1) m9 (O) hq1 zb1_1 ok hF fun x12 u13 _ zu13 ok hF => ?_) (.cons (.refl _) (.cons (.refl _) (.cons (.refl _) (.cons (.refl _) (.nil)))))
      refine S_bin rfl rfl (ev_eql ..) ?_
      refine S_a (v := .bool _) rfl ?_
      refine S_nil ?_
      refine WP_ret ?_
      repeat (first | with_reducible refine Exit.sel_ret ?_ | with_reducible refine Exit.blk_ret ?_)
      have hwo : WO ((q1, .cells [.int .i64 x12.2.Places, mslO 4 u13 x12.2.L]) :: mo u13 c_T_lecternref16_Entry x12.2.L :: O) ((q1, .cells [.int .i64 x12.2.Places, mslO 4 u13 x12.2.L]) :: mo u13 c_T_lecternref16_Entry x12.2.L :: O) := (.keep (.keep (.refl O)))
      refine C_ret (fn := Try.f19) rfl (.tmp (v := .bool ((I.putL p2.K p2.V p2.Dirty p0n p0).1 == x12.1)) rfl .nil) ?_
      exact ⟨_, _, (.refl _), (hwo.spec ok).2.2, _, F_some hF, rfl, m9, f10, hC, u13, zu13, (hwo.spec ok).1, rfl⟩
    ·
      refine C_seq ?_
      refine C_reg (mdl []) ?_
      refine S_bin rfl rfl (ev_eql ..) ?_
      refine S_a (v := .bool _) rfl ?_
      refine S_nil ?_
      refine C_if (b := (p2.Kind == (2 : Int))) rfl hF (fun hb14 hF => ?_) (fun hb14 hF => ?_)
      ·
        refine C_seq ?_
        refine C_plan (mdl [(60, 3), (64, 3)]) [0, 1, 2, 4, 5, 6, 3, 7, 8, 9] [_, _, _, _, _, _, _, _, _, _] (by kernel_rfl) rfl rfl (by kernel_rfl) ?_
        refine S_m (v := .ptr _ _) rfl ?_
        refine S_faQ rfl ty_fd_38_1 ty_sz_3 rfl ?_
        refine S_ldQ rfl (p_one ty_ag_3 ty_sz_3 rfl) ?_
        refine S_m (v := .ptr _ _) rfl ?_
        refine S_faQ rfl ty_fd_38_1 ty_sz_3 rfl ?_
        refine S_ldQ rfl (p_one ty_ag_3 ty_sz_3 rfl) ?_
        refine I.S_drop (k := p2.K) ok hC rfl rfl (fun m15 f16 ok hC => ?_)
        obtain ⟨a17, ha17, hF⟩ := F_let hF
        rw [← ha17] at hC
        obtain ⟨hpe, ok⟩ := Hp_pull 1 ok rfl
        rw [hpe]; clear hpe
        obtain ⟨hpe, ok⟩ := Hp_pull 1 ok rfl
        rw [hpe]; clear hpe
        refine S_call (F_lecternref16_Cache_Drop_ok (q0 := q1) (b0_1 := b1_1) m15 (O) hq1 zb1_1 ok hF fun x18 u19 _ zu19 ok hF => ?_) (.cons (.refl _) (.cons (.refl _) (.nil)))
        refine S_bin rfl rfl (e_beq ty_bo_4) ?_
        refine S_a (v := .bool _) rfl ?_
        refine S_nil ?_
        refine WP_ret ?_
        repeat (first | with_reducible refine Exit.sel_ret ?_ | with_reducible refine Exit.blk_ret ?_)
        have hwo : WO ((q1, .cells [.int .i64 x18.2.Places, mslO 4 u19 x18.2.L]) :: mo u19 c_T_lecternref16_Entry x18.2.L :: O) ((q1, .cells [.int .i64 x18.2.Places, mslO 4 u19 x18.2.L]) :: mo u19 c_T_lecternref16_Entry x18.2.L :: O) := (.keep (.keep (.refl O)))
        refine C_ret (fn := Try.f19) rfl (.tmp (v := .bool ((I.dropB p2.K p0) == x18.1)) rfl .nil) ?_
        exact ⟨_, _, (.refl _), (hwo.spec ok).2.2, _, F_some hF, rfl, m15, f16, hC, u19, zu19, (hwo.spec ok).1, rfl⟩
      ·
        refine C_seq ?_
        refine C_reg (mdl []) ?_
        refine S_bin rfl rfl (ev_eql ..) ?_
        refine S_a (v := .bool _) rfl ?_
        refine S_nil ?_
        refine C_if (b := (p2.Kind == (3 : Int))) rfl hF (fun hb20 hF => ?_) (fun hb20 hF => ?_)
        ·
          refine C_seq ?_
          refine C_plan (mdl [(71, 3), (75, 3)]) [0, 1, 2, 4, 5, 6, 3, 7, 8, 9] [_, _, _, _, _, _, _, _, _, _] (by kernel_rfl) rfl rfl (by kernel_rfl) ?_
          refine S_m (v := .ptr _ _) rfl ?_
          refine S_faQ rfl ty_fd_38_1 ty_sz_3 rfl ?_
          refine S_ldQ rfl (p_one ty_ag_3 ty_sz_3 rfl) ?_
          refine S_m (v := .ptr _ _) rfl ?_
          refine S_faQ rfl ty_fd_38_1 ty_sz_3 rfl ?_
          refine S_ldQ rfl (p_one ty_ag_3 ty_sz_3 rfl) ?_
          refine I.S_pin (k := p2.K) ok hC rfl rfl hF (fun m21 f22 ok hC hF => ?_)
          obtain ⟨a23, ha23, hF⟩ := F_let hF
          rw [← ha23] at hC
          obtain ⟨hpe, ok⟩ := Hp_pull 1 ok rfl
          rw [hpe]; clear hpe
          obtain ⟨hpe, ok⟩ := Hp_pull 1 ok rfl
          rw [hpe]; clear hpe
          refine S_call (F_lecternref16_Cache_Pin_ok (q0 := q1) (b0_1 := b1_1) m21 (O) hq1 zb1_1 ok hF fun x24 u25 _ zu25 ok hF => ?_) (.cons (.refl _) (.cons (.refl _) (.cons (.refl _) (.nil))))
          refine S_bin rfl rfl (e_beq ty_bo_4) ?_
          refine S_a (v := .bool _) rfl ?_
          refine S_nil ?_
          refine WP_ret ?_
          repeat (first | with_reducible refine Exit.sel_ret ?_ | with_reducible refine Exit.blk_ret ?_)
          have hwo : WO ((q1, .cells [.int .i64 x24.2.Places, mslO 4 u25 x24.2.L]) :: mo u25 c_T_lecternref16_Entry x24.2.L :: O) ((q1, .cells [.int .i64 x24.2.Places, mslO 4 u25 x24.2.L]) :: mo u25 c_T_lecternref16_Entry x24.2.L :: O) := (.keep (.keep (.refl O)))
          refine C_ret (fn := Try.f19) rfl (.tmp (v := .bool ((I.pinB p2.K p0) == x24.1)) rfl .nil) ?_
          exact ⟨_, _, (.refl _), (hwo.spec ok).2.2, _, F_some hF, rfl, m21, f22, hC, u25, zu25, (hwo.spec ok).1, rfl⟩
        ·
          refine C_seq ?_
          refine C_reg (mdl []) ?_
          refine S_bin rfl rfl (ev_eql ..) ?_
          refine S_a (v := .bool _) rfl ?_
          refine S_nil ?_
          refine C_if (b := (p2.Kind == (4 : Int))) rfl hF (fun hb26 hF => ?_) (fun hb26 hF => ?_)
          ·
            refine C_seq ?_
            refine C_plan (mdl [(82, 3), (86, 3)]) [0, 1, 2, 4, 5, 6, 3, 7, 8, 9] [_, _, _, _, _, _, _, _, _, _] (by kernel_rfl) rfl rfl (by kernel_rfl) ?_
            refine S_m (v := .ptr _ _) rfl ?_
            refine S_faQ rfl ty_fd_38_1 ty_sz_3 rfl ?_
            refine S_ldQ rfl (p_one ty_ag_3 ty_sz_3 rfl) ?_
            refine S_m (v := .ptr _ _) rfl ?_
            refine S_faQ rfl ty_fd_38_1 ty_sz_3 rfl ?_
            refine S_ldQ rfl (p_one ty_ag_3 ty_sz_3 rfl) ?_
            refine I.S_unpin (k := p2.K) ok hC rfl rfl hF (fun m27 f28 ok hC hF => ?_)
            obtain ⟨a29, ha29, hF⟩ := F_let hF
            rw [← ha29] at hC
            obtain ⟨hpe, ok⟩ := Hp_pull 1 ok rfl
            rw [hpe]; clear hpe
            obtain ⟨hpe, ok⟩ := Hp_pull 1 ok rfl
            rw [hpe]; clear hpe
            refine S_call (F_lecternref16_Cache_Pin_ok (q0 := q1) (b0_1 := b1_1) m27 (O) hq1 zb1_1 ok hF fun x30 u31 _ zu31 ok hF => ?_) (.cons (.refl _) (.cons (.refl _) (.cons (.refl _) (.nil))))
            refine S_bin rfl rfl (e_beq ty_bo_4) ?_
            refine S_a (v := .bool _) rfl ?_
            refine S_nil ?_
            refine WP_ret ?_
            repeat (first | with_reducible refine Exit.sel_ret ?_ | with_reducible refine Exit.blk_ret ?_)
            have hwo : WO ((q1, .cells [.int .i64 x30.2.Places, mslO 4 u31 x30.2.L]) :: mo u31 c_T_lecternref16_Entry x30.2.L :: O) ((q1, .cells [.int .i64 x30.2.Places, mslO 4 u31 x30.2.L]) :: mo u31 c_T_lecternref16_Entry x30.2.L :: O) := (.keep (.keep (.refl O)))
            refine C_ret (fn := Try.f19) rfl (.tmp (v := .bool ((I.unpinB p2.K p0) == x30.1)) rfl .nil) ?_
            exact ⟨_, _, (.refl _), (hwo.spec ok).2.2, _, F_some hF, rfl, m27, f28, hC, u31, zu31, (hwo.spec ok).1, rfl⟩
          ·
            refine C_seq ?_
            refine C_reg (mdl []) ?_
            refine S_bin rfl rfl (ev_eql ..) ?_
            refine S_a (v := .bool _) rfl ?_
            refine S_nil ?_
            refine C_if (b := (p2.Kind == (5 : Int))) rfl hF (fun hb32 hF => ?_) (fun hb32 hF => ?_)
            ·
              refine C_seq ?_
              refine C_plan (mdl [(93, 3), (97, 3)]) [0, 1, 2, 4, 5, 6, 3, 7, 8, 9] [_, _, _, _, _, _, _, _, _, _] (by kernel_rfl) rfl rfl (by kernel_rfl) ?_
              refine S_m (v := .ptr _ _) rfl ?_
              refine S_faQ rfl ty_fd_38_1 ty_sz_3 rfl ?_
              refine S_ldQ rfl (p_one ty_ag_3 ty_sz_3 rfl) ?_
              refine S_m (v := .ptr _ _) rfl ?_
              refine S_faQ rfl ty_fd_38_1 ty_sz_3 rfl ?_
              refine S_ldQ rfl (p_one ty_ag_3 ty_sz_3 rfl) ?_
              refine I.S_clean (k := p2.K) ok hC rfl rfl (fun m33 f34 ok hC => ?_)
              obtain ⟨a35, ha35, hF⟩ := F_let hF
              rw [← ha35] at hC
              obtain ⟨hpe, ok⟩ := Hp_pull 1 ok rfl
              rw [hpe]; clear hpe
              obtain ⟨hpe, ok⟩ := Hp_pull 1 ok rfl
              rw [hpe]; clear hpe
              refine S_call (F_lecternref16_Cache_Clean_ok (q0 := q1) (b0_1 := b1_1) m33 (O) hq1 zb1_1 ok hF fun x36 u37 _ zu37 ok hF => ?_) (.cons (.refl _) (.cons (.refl _) (.nil)))
              refine S_bin rfl rfl (e_beq ty_bo_4) ?_
              refine S_a (v := .bool _) rfl ?_
              refine S_nil ?_
              refine WP_ret ?_
              repeat (first | with_reducible refine Exit.sel_ret ?_ | with_reducible refine Exit.blk_ret ?_)
              have hwo : WO ((q1, .cells [.int .i64 x36.2.Places, mslO 4 u37 x36.2.L]) :: mo u37 c_T_lecternref16_Entry x36.2.L :: O) ((q1, .cells [.int .i64 x36.2.Places, mslO 4 u37 x36.2.L]) :: mo u37 c_T_lecternref16_Entry x36.2.L :: O) := (.keep (.keep (.refl O)))
              refine C_ret (fn := Try.f19) rfl (.tmp (v := .bool ((I.cleanB p2.K p0) == x36.1)) rfl .nil) ?_
              exact ⟨_, _, (.refl _), (hwo.spec ok).2.2, _, F_some hF, rfl, m33, f34, hC, u37, zu37, (hwo.spec ok).1, rfl⟩
            ·
              refine WP_skip ?_
              refine C_seq ?_
              refine C_reg (mdl []) ?_
              refine S_a (v := .bool _) rfl ?_
              refine S_nil ?_
              refine WP_ret ?_
              repeat (first | with_reducible refine Exit.sel_ret ?_ | with_reducible refine Exit.blk_ret ?_)
              have hwo : WO ((q1, .cells [.int .i64 p1.Places, mslO 4 b1_1 p1.L]) :: mo b1_1 c_T_lecternref16_Entry p1.L :: O) ((q1, .cells [.int .i64 p1.Places, mslO 4 b1_1 p1.L]) :: mo b1_1 c_T_lecternref16_Entry p1.L :: O) := (.keep (.keep (.refl O)))
              refine C_ret (fn := Try.f19) rfl (.tmp (v := .bool true) rfl .nil) ?_
              exact ⟨_, _, (.refl _), (hwo.spec ok).2.2, _, F_some hF, rfl, h, f, hC, b1_1, zb1_1, (hwo.spec ok).1, rfl⟩
theorem F_lecternlaw16_plays_ok {β : Type} {f0 : Bool × (List I.Ent) × T_lecternref16_Cache → Option β} {G : β → Prop} {R : D → Heap → Prop} {p0 : List I.Ent} {p0n : Int} {p1 : T_lecternref16_Cache} {p2 : T_lecternlaw16_Op} {c0 : Nat} {f : List Nat} {q1 : Nat} {b1_1 : Nat} (h : Heap) (O : List (Nat × AObj)) (hC : I.CaL h c0 f p0n p0) (hq1 : q1 ≠ 0) (zb1_1 : b1_1 = 0 → p1.L = []) (ok : OK h ((q1, .cells [.int .i64 p1.Places, mslO 4 b1_1 p1.L]) :: mo b1_1 c_T_lecternref16_Entry p1.L :: O)) (hF : OptP ((F_lecternlaw16_plays p0 p0n p1 p2).bind f0) G) (hk : ∀ r hb f' b1_1', F_lecternlaw16_plays p0 p0n p1 p2 = some r → I.CaL hb c0 f' p0n r.2.1 → (b1_1' = 0 → r.2.2.L = []) → OK hb ((q1, .cells [.int .i64 r.2.2.Places, mslO 4 b1_1' r.2.2.L]) :: mo b1_1' c_T_lecternref16_Entry r.2.2.L :: O) → OptP (f0 r) G → R (.bool r.1) (Hp hb ((q1, .cells [.int .i64 r.2.2.Places, mslO 4 b1_1' r.2.2.L]) :: mo b1_1' c_T_lecternref16_Entry r.2.2.L :: O))) : CallsA Try.prog 19 [.ptr c0 0, .ptr q1 0, .agg (c_T_lecternlaw16_Op p2)] (Hp h ((q1, .cells [.int .i64 p1.Places, mslO 4 b1_1 p1.L]) :: mo b1_1 c_T_lecternref16_Entry p1.L :: O)) R := by
  obtain ⟨r0, hr, hF⟩ := F_bind hF
  refine (F_lecternlaw16_plays_w (G := fun r => r = r0) p0 p0n p1 p2 c0 f q1 b1_1 h O hC hq1 zb1_1 ok ⟨r0, hr, rfl⟩).mono ?_
  rintro _ _ ⟨r, rfl, rfl, hb, f', hC', b1_1', y0, ok', rfl⟩
  exact hk _ _ _ _ hr hC' y0 ok' hF
theorem F_lecternref16_Cache_Keys_w (p0 : T_lecternref16_Cache) (p1 : Bool) (q0 : Nat) (b0_1 : Nat) {G : (List Int) → Prop} (h : Heap) (O : List (Nat × AObj)) (hq0 : q0 ≠ 0) (zb0_1 : b0_1 = 0 → p0.L = []) (ok : OK h ((q0, .cells [.int .i64 p0.Places, mslO 4 b0_1 p0.L]) :: mo b0_1 c_T_lecternref16_Entry p0.L :: O)) (hF : OptP (F_lecternref16_Cache_Keys p0 p1) G) : CallsA Try.prog 20 [.ptr q0 0, .bool p1] (Hp h ((q0, .cells [.int .i64 p0.Places, mslO 4 b0_1 p0.L]) :: mo b0_1 c_T_lecternref16_Entry p0.L :: O)) fun d h' => ∃ r, G r ∧ d = .sl 1 (List.map c_i64 r) 0 ∧ OK h ((q0, .cells [.int .i64 p0.Places, mslO 4 b0_1 p0.L]) :: mo b0_1 c_T_lecternref16_Entry p0.L :: O) ∧ h' = Hp h ((q0, .cells [.int .i64 p0.Places, mslO 4 b0_1 p0.L]) :: mo b0_1 c_T_lecternref16_Entry p0.L :: O) := by
  refine CallsA.ret ?_
  refine C_bodyO Try.func20 rfl en_20 Try.ntmps20 rfl ?_
  rw [F_lecternref16_Cache_Keys] at hF
  refine C_seq ?_
  refine C_reg (mdl []) ?_
  refine S_a (v := .snil) rfl ?_
  refine S_one 4 (v := .sl 1 (List.map c_i64 ([] : List Int)) 0) (.nil _) ?_
  refine S_nil ?_
  refine C_seq ?_
  refine C_reg (mdl [(8, 2)]) ?_
  refine S_lit2 (cs := []) (es := (List.map c_i64 ([] : List Int))) ok rfl ty_el_22 rfl (by kernel_rfl) (by kernel_rfl) ?_
  intro r1 hr1 ok
  refine S_a (v := .sl _ _ _) rfl ?_
  refine S_nil ?_
  refine C_join hF (fun (a18 : (List Int)) s' => ∃ g19 : Nat, g19 ≠ 0 ∧ OK h ((g19, .room) :: (q0, .cells [.int .i64 p0.Places, mslO 4 b0_1 p0.L]) :: mo b0_1 c_T_lecternref16_Entry p0.L :: O) ∧ WS s' ⟨mkSl 30 [(5, .sl 1 (List.map c_i64 a18) g19)], Hp h ((g19, .room) :: (q0, .cells [.int .i64 p0.Places, mslO 4 b0_1 p0.L]) :: mo b0_1 c_T_lecternref16_Entry p0.L :: O)⟩) (fun J20 hF => ?_) ?_
  ·
    refine C_seq ?_
    refine C_reg (mdl []) ?_
    refine S_m (v := .ptr _ _) rfl ?_
    refine S_nilc (v := .ptr _ _) rfl rfl ?_
    refine S_faP rfl ty_fd_46_1 ty_sz_44 ?_
    refine S_ldP (j := 1) ok rfl rfl rfl hq0 (p_one (v := mslO 4 b0_1 p0.L) ty_ag_44 ty_sz_44 rfl) ?_
    refine S_lenO zb0_1 rfl ty_sl_44 ?_
    refine S_m (v := .int _ _) rfl ?_
    refine S_nil ?_
    refine WP_block ?_
    refine C_loop (σ := (List Int) × Int) hF (fun (v : (List Int) × Int) s' => match v with | (a21, a23) => ∃ g22 : Nat, g22 ≠ 0 ∧ OK h ((g22, .room) :: (q0, .cells [.int .i64 p0.Places, mslO 4 b0_1 p0.L]) :: mo b0_1 c_T_lecternref16_Entry p0.L :: O) ∧ WS s' ⟨mkSl 30 [(1, .bool p1), (5, .sl 1 (List.map c_i64 a21) g22), (12, mslO 4 b0_1 p0.L), (13, .int .i64 (p0.L.length : Int)), (14, .int .i64 a23)], Hp h ((g22, .room) :: (q0, .cells [.int .i64 p0.Places, mslO 4 b0_1 p0.L]) :: mo b0_1 c_T_lecternref16_Entry p0.L :: O)⟩) ?_ ?_
    ·
      have hwo : WO ((r1, .room) :: (q0, .cells [.int .i64 p0.Places, mslO 4 b0_1 p0.L]) :: mo b0_1 c_T_lecternref16_Entry p0.L :: O) ((r1, .room) :: (q0, .cells [.int .i64 p0.Places, mslO 4 b0_1 p0.L]) :: mo b0_1 c_T_lecternref16_Entry p0.L :: O) := (.keep (.keep (.keep (.refl O))))
      exact ⟨r1, hr1, (hwo.spec ok).1, WS.mk' (.cons (.refl _) (.cons (.refl _) (.cons (.refl _) (.cons (.refl _) (.cons (.refl _) .nil))))) ok hwo⟩
    ·
      rintro G24 hG25 rec26 ⟨a21, a23⟩ s' ih27 hF ⟨g22, hg22, ok, hws⟩
      refine WP_ws hws ?_
      clear hws s'
      rw [F_lecternref16_Cache_Keys_l0] at hF
      refine C_seq ?_
      refine C_reg (mdl []) ?_
      refine S_bin rfl rfl (ev_lss ..) ?_
      refine S_nil ?_
      refine C_seq ?_
      refine C_if (b := (decide (a23 < (p0.L.length : Int)))) rfl hF (fun hb28 hF => ?_) (fun hb28 hF => ?_)
      ·
        refine WP_skip ?_
        refine C_join hF (fun (a34 : (List Int)) s' => ∃ g35 : Nat, g35 ≠ 0 ∧ OK h ((g35, .room) :: (q0, .cells [.int .i64 p0.Places, mslO 4 b0_1 p0.L]) :: mo b0_1 c_T_lecternref16_Entry p0.L :: O) ∧ WS s' ⟨mkSl 30 [(1, .bool p1), (5, .sl 1 (List.map c_i64 a34) g35), (12, mslO 4 b0_1 p0.L), (13, .int .i64 (p0.L.length : Int)), (14, .int .i64 a23)], Hp h ((g35, .room) :: (q0, .cells [.int .i64 p0.Places, mslO 4 b0_1 p0.L]) :: mo b0_1 c_T_lecternref16_Entry p0.L :: O)⟩) (fun J36 hF => ?_) ?_
        ·
          refine WP_block ?_
          refine C_seq ?_
          refine C_reg (mdl [(7, 1)]) ?_
          refine S_ixO zb0_1 rfl rfl ty_sl_44 ty_sz_76 hF (fun x37 hx37 hF => ?_)
          refine S_ldO (q := 4) (j := 2) (f0 := 0) ok rfl zb0_1 rfl rfl (fun _ => rfl) hx37 rfl rfl (p_agg (vs := c_T_lecternref16_Entry x37) ty_ag_76 ty_sz_76 rfl rfl) ?_
          refine S_all1 ok rfl ty_zc_76 ?_
          intro i38 hi38 ok
          refine S_st (j := 0) (cs' := [.int .i64 x37.Key, .int .i64 x37.Value, .bool x37.Dirty, .int .i64 x37.Pins]) ok rfl rfl rfl hi38 rfl ty_sz_76 rfl rfl (fun ok => ?_)
          refine S_nil ?_
          refine C_seq ?_
          refine C_reg (mdl []) ?_
          refine S_m (v := .bool _) rfl ?_
          refine S_m (v := .bool _) rfl ?_
          refine S_two (b := p1) 3 22 (.bool (p1 || x37.Dirty)) (fun hb39 => ?_) (fun hb39 => ?_) ?_
          ·
            refine S_off rfl rfl hb39 ?_
            refine S_offD ?_
            refine S_off rfl rfl hb39 ?_
            refine S_offD ?_
            refine S_pickT (v := .bool _) rfl hb39 rfl ?_
            refine S_nil ?_
            refine .hd (or_t hb39) ?_
            repeat (first | with_reducible exact WS.refl _ | refine WS.add ?_ rfl)
          ·
            refine S_on rfl rfl hb39 ?_
            refine S_in ?_
            refine S_faP rfl ty_fd_76_2 ty_sz_4 ?_
            refine S_nil ?_
            refine S_on rfl rfl hb39 ?_
            refine S_in ?_
            refine S_ldP (j := 0) ok rfl rfl rfl hi38 (p_one (v := .bool x37.Dirty) ty_ag_4 ty_sz_4 rfl) ?_
            refine S_nil ?_
            refine S_pickF (v := .bool _) rfl hb39 rfl ?_
            refine S_nil ?_
            refine .hd (or_f hb39) ?_
            repeat (first | with_reducible exact WS.refl _ | refine WS.add ?_ rfl)
          refine S_nil ?_
          refine C_if (b := (p1 || x37.Dirty)) rfl hF (fun hb40 hF => ?_) (fun hb40 hF => ?_)
          ·
            refine C_reg (mdl [(27, 2)]) ?_
            refine S_m (v := .sl _ _ _) rfl ?_
            refine S_faP rfl ty_fd_76_0 ty_sz_3 ?_
            refine S_ldP (j := 0) ok rfl rfl rfl hi38 (p_one (v := .int .i64 x37.Key) ty_ag_3 ty_sz_3 rfl) ?_
            refine S_lit0 (cs := [.int .i64 x37.Key]) (es := (List.map c_i64 [x37.Key])) rfl ty_el_22 rfl (by kernel_rfl) (by kernel_rfl) ?_
            refine S_app (j := 1) ok rfl rfl rfl rfl hg22 ty_el_22 ty_ni_22 hF ?_
            intro r41 hr41 ok hF
            refine S_a (v := .sl _ _ _) rfl ?_
            refine S_nil ?_
            have hwo : WO ((i38, .cells [.int .i64 x37.Key, .int .i64 x37.Value, .bool x37.Dirty, .int .i64 x37.Pins]) :: (r41, .room) :: (q0, .cells [.int .i64 p0.Places, mslO 4 b0_1 p0.L]) :: mo b0_1 c_T_lecternref16_Entry p0.L :: O) ((r41, .room) :: (q0, .cells [.int .i64 p0.Places, mslO 4 b0_1 p0.L]) :: mo b0_1 c_T_lecternref16_Entry p0.L :: O) := (.drop (.keep (.keep (.keep (.refl O)))))
            exact ⟨(a21 ++ [x37.Key]), hF, r41, hr41, (hwo.spec ok).1, WS.mk' (.cons (.refl _) (.cons (.refl _) (.cons (.refl _) (.cons (.refl _) (.cons (.refl _) .nil))))) ok hwo⟩
          ·
            refine WP_skip ?_
            have hwo : WO ((i38, .cells [.int .i64 x37.Key, .int .i64 x37.Value, .bool x37.Dirty, .int .i64 x37.Pins]) :: (g22, .room) :: (q0, .cells [.int .i64 p0.Places, mslO 4 b0_1 p0.L]) :: mo b0_1 c_T_lecternref16_Entry p0.L :: O) ((g22, .room) :: (q0, .cells [.int .i64 p0.Places, mslO 4 b0_1 p0.L]) :: mo b0_1 c_T_lecternref16_Entry p0.L :: O) := (.drop (.keep (.keep (.keep (.refl O)))))
            exact ⟨a21, hF, g22, hg22, (hwo.spec ok).1, WS.mk' (.cons (.refl _) (.cons (.refl _) (.cons (.refl _) (.cons (.refl _) (.cons (.refl _) .nil))))) ok hwo⟩
        ·
          rintro a34 s' hF ⟨g35, hg35, ok, hws⟩
          refine WP_ws hws ?_
          clear hws s'
          refine C_reg (mdl []) ?_
          refine S_bin rfl rfl (ev_add ..) ?_
          refine S_m (v := .int _ _) rfl ?_
          refine S_nil ?_
          refine ih27 (a34, (IntKind.wrap .i64 (a23 + (1 : Int)))) _ hF ?_
          have hwo : WO ((g35, .room) :: (q0, .cells [.int .i64 p0.Places, mslO 4 b0_1 p0.L]) :: mo b0_1 c_T_lecternref16_Entry p0.L :: O) ((g35, .room) :: (q0, .cells [.int .i64 p0.Places, mslO 4 b0_1 p0.L]) :: mo b0_1 c_T_lecternref16_Entry p0.L :: O) := (.keep (.keep (.keep (.refl O))))
          exact ⟨g35, hg35, (hwo.spec ok).1, WS.mk' (.cons (.refl _) (.cons (.refl _) (.cons (.refl _) (.cons (.refl _) (.cons (.refl _) .nil))))) ok hwo⟩
      ·
        refine WP_exit ?_
        simp only [Exit.sel, Exit.blk, if_true, if_false, reduceIte, Nat.reduceEqDiff, Nat.succ_ne_zero, Nat.zero_ne_one, Nat.one_ne_zero]
        replace hF := hG25 _ (F_some hF)
        have hwo : WO ((g22, .room) :: (q0, .cells [.int .i64 p0.Places, mslO 4 b0_1 p0.L]) :: mo b0_1 c_T_lecternref16_Entry p0.L :: O) ((g22, .room) :: (q0, .cells [.int .i64 p0.Places, mslO 4 b0_1 p0.L]) :: mo b0_1 c_T_lecternref16_Entry p0.L :: O) := (.keep (.keep (.keep (.refl O))))
        exact ⟨a21, hF, g22, hg22, (hwo.spec ok).1, WS.mk' (.cons (.refl _) .nil) ok hwo⟩
  ·
    rintro a18 s' hF ⟨g19, hg19, ok, hws⟩
    refine WP_ws hws ?_
    clear hws s'
    refine C_seq ?_
    refine C_reg (mdl []) ?_
    refine S_m (v := .sl _ _ _) rfl ?_
    refine S_one 29 (v := .sl 1 (List.map c_i64 a18) 0) (.zero _ _ _) ?_
    refine S_a (v := .sl _ _ _) rfl ?_
    refine S_nil ?_
    refine WP_ret ?_
    repeat (first | with_reducible refine Exit.sel_ret ?_ | with_reducible refine Exit.blk_ret ?_)
    have hwo : WO ((g19, .room) :: (q0, .cells [.int .i64 p0.Places, mslO 4 b0_1 p0.L]) :: mo b0_1 c_T_lecternref16_Entry p0.L :: O) ((q0, .cells [.int .i64 p0.Places, mslO 4 b0_1 p0.L]) :: mo b0_1 c_T_lecternref16_Entry p0.L :: O) := (.drop (.keep (.keep (.refl O))))
    refine C_ret (fn := Try.f20) rfl (.tmp (v := .sl 1 (List.map c_i64 a18) 0) rfl .nil) ?_
    exact ⟨_, _, (.refl _), (hwo.spec ok).2.2, _, F_some hF, rfl, (hwo.spec ok).1, rfl⟩
theorem F_lecternref16_Cache_Keys_ok {β : Type} {f0 : (List Int) → Option β} {G : β → Prop} {R : D → Heap → Prop} {p0 : T_lecternref16_Cache} {p1 : Bool} {q0 : Nat} {b0_1 : Nat} (h : Heap) (O : List (Nat × AObj)) (hq0 : q0 ≠ 0) (zb0_1 : b0_1 = 0 → p0.L = []) (ok : OK h ((q0, .cells [.int .i64 p0.Places, mslO 4 b0_1 p0.L]) :: mo b0_1 c_T_lecternref16_Entry p0.L :: O)) (hF : OptP ((F_lecternref16_Cache_Keys p0 p1).bind f0) G) (hk : ∀ r, F_lecternref16_Cache_Keys p0 p1 = some r → OK h ((q0, .cells [.int .i64 p0.Places, mslO 4 b0_1 p0.L]) :: mo b0_1 c_T_lecternref16_Entry p0.L :: O) → OptP (f0 r) G → R (.sl 1 (List.map c_i64 r) 0) (Hp h ((q0, .cells [.int .i64 p0.Places, mslO 4 b0_1 p0.L]) :: mo b0_1 c_T_lecternref16_Entry p0.L :: O))) : CallsA Try.prog 20 [.ptr q0 0, .bool p1] (Hp h ((q0, .cells [.int .i64 p0.Places, mslO 4 b0_1 p0.L]) :: mo b0_1 c_T_lecternref16_Entry p0.L :: O)) R := by
  obtain ⟨r0, hr, hF⟩ := F_bind hF
  refine (F_lecternref16_Cache_Keys_w (G := fun r => r = r0) p0 p1 q0 b0_1 h O hq0 zb0_1 ok ⟨r0, hr, rfl⟩).mono ?_
  rintro _ _ ⟨r, rfl, rfl, ok', rfl⟩
  exact hk _ hr ok' hF
theorem F_lecternref05_SameInts_w (p0 : List Int) (p1 : List Int) {G : Bool → Prop} (h : Heap) (hF : OptP (F_lecternref05_SameInts p0 p1) G) : CallsA Try.prog 12 [.sl 1 (List.map c_i64 p0) 0, .sl 1 (List.map c_i64 p1) 0] h fun d h' => ∃ r, G r ∧ d = .bool r ∧ h' = h := by
  refine CallsA.ret ?_
  refine C_body Try.func12 rfl en_12 Try.ntmps12 rfl (fun ok => ?_)
  rw [F_lecternref05_SameInts] at hF
  refine C_seq ?_
  refine C_reg (mdl []) ?_
  refine S_a (v := .bool _) rfl ?_
  refine S_nil ?_
  refine C_seq ?_
  refine C_seq ?_
  refine C_reg (mdl []) ?_
  refine S_m (v := .sl _ _ _) rfl ?_
  refine S_lenL rfl ty_sl_22 ?_
  refine S_m (v := .sl _ _ _) rfl ?_
  refine S_lenL rfl ty_sl_22 ?_
  refine S_bin rfl rfl (ev_neq ..) ?_
  refine S_nil ?_
  refine C_if (b := ((p0.length : Int) != (p1.length : Int))) rfl hF (fun hb1 hF => ?_) (fun hb1 hF => ?_)
  ·
    refine C_seq ?_
    refine C_reg (mdl []) ?_
    refine S_a (v := .bool _) rfl ?_
    refine S_nil ?_
    refine WP_ret ?_
    repeat (first | with_reducible refine Exit.sel_ret ?_ | with_reducible refine Exit.blk_ret ?_)
    refine C_ret (fn := Try.f12) rfl (.tmp (v := .bool false) rfl .nil) ?_
    exact ⟨_, _, (.refl _), ok.wh, _, F_some hF, rfl, rfl⟩
  ·
    refine WP_skip ?_
    refine C_join hF (fun (_ : Unit) s' => OK h [] ∧ WS s' ⟨mkSl 26 [], Hp h []⟩) (fun J7 hF => ?_) ?_
    ·
      refine C_seq ?_
      refine C_reg (mdl []) ?_
      refine S_m (v := .sl _ _ _) rfl ?_
      refine S_lenL rfl ty_sl_22 ?_
      refine S_m (v := .int _ _) rfl ?_
      refine S_nil ?_
      refine WP_block ?_
      refine C_loop (σ := Int) hF (fun (a8 : Int) s' => OK h [] ∧ WS s' ⟨mkSl 26 [(0, .sl 1 (List.map c_i64 p0) 0), (1, .sl 1 (List.map c_i64 p1) 0), (12, .int .i64 (p0.length : Int)), (13, .int .i64 a8)], Hp h []⟩) ?_ ?_
      ·
        have hwo : WO [] [] := .nil
        exact ⟨(hwo.spec ok).1, WS.mk' (.cons (.refl _) (.cons (.refl _) (.cons (.refl _) (.cons (.refl _) .nil)))) ok hwo⟩
      ·
        rintro G9 hG10 rec11 a8 s' ih12 hF ⟨ok, hws⟩
        refine WP_ws hws ?_
        clear hws s'
        rw [F_lecternref05_SameInts_l0] at hF
        refine C_seq ?_
        refine C_reg (mdl []) ?_
        refine S_bin rfl rfl (ev_lss ..) ?_
        refine S_nil ?_
        refine C_seq ?_
        refine C_if (b := (decide (a8 < (p0.length : Int)))) rfl hF (fun hb13 hF => ?_) (fun hb13 hF => ?_)
        ·
          refine WP_skip ?_
          refine C_seq ?_
          refine WP_block ?_
          refine C_seq ?_
          refine C_reg (mdl []) ?_
          refine S_m (v := .int _ _) rfl ?_
          refine S_a (v := .int _ _) rfl ?_
          refine S_nil ?_
          refine C_seq ?_
          refine C_drw (mdl [(19, 3), (23, 3)]) (by kernel_rfl) (by kernel_rfl) ?_
          refine S_m (v := .sl _ _ _) rfl ?_
          refine S_m (v := .int _ _) rfl ?_
          refine S_ix rfl rfl ty_sl_22 ty_sz_3 hF (fun x14 _ hF => ?_)
          refine S_ldQ rfl (p_one ty_ag_3 ty_sz_3 rfl) ?_
          refine S_m (v := .sl _ _ _) rfl ?_
          refine S_m (v := .int _ _) rfl ?_
          refine S_ix rfl rfl ty_sl_22 ty_sz_3 hF (fun x15 _ hF => ?_)
          refine S_ldQ rfl (p_one ty_ag_3 ty_sz_3 rfl) ?_
          refine S_bin rfl rfl (ev_neq ..) ?_
          refine S_nil ?_
          refine C_if (b := (x14 != x15)) rfl hF (fun hb16 hF => ?_) (fun hb16 hF => ?_)
          ·
            refine C_seq ?_
            refine C_reg (mdl []) ?_
            refine S_a (v := .bool _) rfl ?_
            refine S_nil ?_
            refine WP_ret ?_
            replace hF := hG10 _ (F_some hF)
            repeat (first | with_reducible refine Exit.sel_ret ?_ | with_reducible refine Exit.blk_ret ?_)
            refine C_ret (fn := Try.f12) rfl (.tmp (v := .bool false) rfl .nil) ?_
            exact ⟨_, _, (.refl _), ok.wh, _, F_some hF, rfl, rfl⟩
          ·
            refine WP_skip ?_
            refine C_reg (mdl []) ?_
            refine S_bin rfl rfl (ev_add ..) ?_
            refine S_m (v := .int _ _) rfl ?_
            refine S_nil ?_
            refine ih12 (IntKind.wrap .i64 (a8 + (1 : Int))) _ hF ?_
            have hwo : WO [] [] := .nil
            exact ⟨(hwo.spec ok).1, WS.mk' (.cons (.refl _) (.cons (.refl _) (.cons (.refl _) (.cons (.refl _) .nil)))) ok hwo⟩
        ·
          refine WP_exit ?_
          simp only [Exit.sel, Exit.blk, if_true, if_false, reduceIte, Nat.reduceEqDiff, Nat.succ_ne_zero, Nat.zero_ne_one, Nat.one_ne_zero]
          replace hF := hG10 _ (F_some hF)
          have hwo : WO [] [] := .nil
          exact ⟨(), hF, (hwo.spec ok).1, WS.mk' .nil ok hwo⟩
    ·
      rintro ⟨⟩ s' hF ⟨ok, hws⟩
      refine WP_ws hws ?_
      clear hws s'
      refine C_seq ?_
      refine C_reg (mdl []) ?_
      refine S_a (v := .bool _) rfl ?_
      refine S_nil ?_
      refine WP_ret ?_
      repeat (first | with_reducible refine Exit.sel_ret ?_ | with_reducible refine Exit.blk_ret ?_)
      refine C_ret (fn := Try.f12) rfl (.tmp (v := .bool true) rfl .nil) ?_
      exact ⟨_, _, (.refl _), ok.wh, _, F_some hF, rfl, rfl⟩
theorem F_lecternref05_SameInts_ok {β : Type} {f : Bool → Option β} {G : β → Prop} {R : D → Heap → Prop} {p0 : List Int} {p1 : List Int} (h : Heap) (hF : OptP ((F_lecternref05_SameInts p0 p1).bind f) G) (hk : ∀ r, F_lecternref05_SameInts p0 p1 = some r → OptP (f r) G → R (.bool r) h) : CallsA Try.prog 12 [.sl 1 (List.map c_i64 p0) 0, .sl 1 (List.map c_i64 p1) 0] h R := by
  obtain ⟨r0, hr, hF⟩ := F_bind hF
  refine (F_lecternref05_SameInts_w (G := fun r => r = r0) p0 p1 h ⟨r0, hr, rfl⟩).mono ?_
  rintro _ _ ⟨r, rfl, rfl, rfl⟩
  exact hk _ hr hF
theorem F_lecternlaw16_CachePlays_w (p0 : Int) (p1 : List T_lecternlaw16_Op) {G : Bool → Prop} (h : Heap) (hF : OptP (F_lecternlaw16_CachePlays p0 p1) G) : CallsA Try.prog 5 [.int .i64 p0, .sl 4 (List.map c_T_lecternlaw16_Op p1) 0] h fun d h' => ∃ r, G r ∧ d = .bool r := by
  refine CallsA.ret ?_
  refine C_body Try.func5 rfl en_5 Try.ntmps5 rfl (fun ok => ?_)
  rw [F_lecternlaw16_CachePlays] at hF
  refine C_seq ?_
  refine C_reg (mdl []) ?_
  refine S_a (v := .bool _) rfl ?_
  refine S_nil ?_
  refine C_seq ?_
  refine C_seq ?_
  refine C_reg (mdl []) ?_
  refine S_awake ok (fun m1 ok => ?_)
  refine S_un rfl (ev_not _) ?_
  refine S_nil ?_
  refine C_ff rfl rfl ?_
  refine WP_skip ?_
  refine C_seq ?_
  refine C_reg (mdl []) ?_
  refine S_m (v := .int _ _) rfl ?_
  refine I.S_new ok rfl hF (fun c2 m3 f4 ok hC hF => ?_) (fun hF => ?_)
  ·
    refine S_m (v := .tup _) rfl ?_
    refine S_ext rfl rfl ?_
    refine S_ext rfl rfl ?_
    refine S_a (v := .ptr _ _) rfl ?_
    refine S_a (v := .int _ _) rfl ?_
    refine S_nil ?_
    refine C_seq ?_
    refine C_seq ?_
    refine C_reg (mdl []) ?_
    refine S_m (v := .int _ _) rfl ?_
    refine S_bin rfl rfl (ev_lss ..) ?_
    refine S_m (v := .bool _) rfl ?_
    refine S_two (b := (decide (p0 < (1 : Int)))) 3 22 (.bool ((decide (p0 < (1 : Int))) || (decide ((65536 : Int) < p0)))) (fun hb6 => ?_) (fun hb6 => ?_) ?_
    ·
      refine S_off rfl rfl hb6 ?_
      refine S_offD ?_
      refine S_off rfl rfl hb6 ?_
      refine S_offD ?_
      refine S_pickT (v := .bool _) rfl hb6 rfl ?_
      refine S_nil ?_
      refine .hd (or_t hb6) ?_
      repeat (first | with_reducible exact WS.refl _ | refine WS.add ?_ rfl)
    ·
      refine S_on rfl rfl hb6 ?_
      refine S_in ?_
      refine S_m (v := .int _ _) rfl ?_
      refine S_nil ?_
      refine S_on rfl rfl hb6 ?_
      refine S_in ?_
      refine S_bin rfl rfl (ev_gtr ..) ?_
      refine S_nil ?_
      refine S_pickF (v := .bool _) rfl hb6 rfl ?_
      refine S_nil ?_
      refine .hd (or_f hb6) ?_
      repeat (first | with_reducible exact WS.refl _ | refine WS.add ?_ rfl)
    refine S_nil ?_
    refine C_if (b := ((decide (p0 < (1 : Int))) || (decide ((65536 : Int) < p0)))) rfl hF (fun hb7 hF => ?_) (fun hb7 hF => ?_)
    ·
      refine C_seq ?_
      refine C_reg (mdl []) ?_
      refine S_m (v := .ptr _ _) rfl ?_
      refine S_bin rfl rfl (e_pn (by rw [ty_pt_25]; rfl)) ?_
      refine S_m (v := .bool _) rfl ?_
      refine S_off rfl rfl rfl ?_
      refine S_offD ?_
      refine S_off rfl rfl rfl ?_
      refine S_offD ?_
      refine S_pickF (v := .bool _) rfl rfl rfl ?_
      refine S_a (v := .bool _) rfl ?_
      refine S_nil ?_
      refine WP_ret ?_
      repeat (first | with_reducible refine Exit.sel_ret ?_ | with_reducible refine Exit.blk_ret ?_)
      refine C_ret (fn := Try.f5) rfl (.tmp (v := .bool false) rfl .nil) ?_
      exact ⟨_, _, (.refl _), WH.refl _, _, F_some hF, rfl⟩
    ·
      refine WP_skip ?_
      refine C_seq ?_
      refine C_seq ?_
      refine C_reg (mdl []) ?_
      refine S_m (v := .ptr _ _) rfl ?_
      refine S_bin rfl rfl (e_pn (by rw [ty_pt_25]; rfl)) ?_
      refine S_m (v := .bool _) rfl ?_
      refine S_on rfl rfl rfl ?_
      refine S_in ?_
      refine S_m (v := .int _ _) rfl ?_
      refine S_nil ?_
      refine S_on rfl rfl rfl ?_
      refine S_in ?_
      refine S_bin rfl rfl (ev_neq ..) ?_
      refine S_nil ?_
      refine S_pickF (v := .bool _) rfl rfl rfl ?_
      refine S_nil ?_
      refine C_if (b := ((0 : Int) != (0 : Int))) rfl hF (fun hb8 hF => ?_) (fun hb8 hF => ?_)
      ·
        refine C_seq ?_
        refine C_reg (mdl []) ?_
        refine S_a (v := .bool _) rfl ?_
        refine S_nil ?_
        refine WP_ret ?_
        repeat (first | with_reducible refine Exit.sel_ret ?_ | with_reducible refine Exit.blk_ret ?_)
        refine C_ret (fn := Try.f5) rfl (.tmp (v := .bool false) rfl .nil) ?_
        exact ⟨_, _, (.refl _), WH.refl _, _, F_some hF, rfl⟩
      ·
        refine WP_skip ?_
        refine C_seq ?_
        refine C_reg (mdl [(37, 1)]) ?_
        refine S_m (v := .int _ _) rfl ?_
        refine S_bld (v := .agg [.int .i64 p0, .snil]) (b_st ty_zc_46 ty_pl_46 rfl) ?_
        refine S_box1 (cs := [.int .i64 p0, .snil]) ok rfl rfl rfl rfl ?_
        intro i9 hi9 ok
        refine S_nilB c_T_lecternref16_Entry ok (fun ok => ?_)
        refine S_a (v := .ptr _ _) rfl ?_
        refine S_nil ?_
        refine C_join hF (fun (a63 : (List I.Ent)) s' => ∃ (m62 : Heap) (f64 : List Nat), I.CaL m62 c2 f64 p0 a63 ∧ OK m62 [] ∧ WS s' ⟨mkSl 79 [], Hp m62 []⟩) (fun J65 hF => ?_) ?_
        ·
          refine C_seq ?_
          refine C_reg (mdl []) ?_
          refine S_m (v := .sl _ _ _) rfl ?_
          refine S_lenL rfl ty_sl_35 ?_
          refine S_m (v := .int _ _) rfl ?_
          refine S_nil ?_
          refine WP_block ?_
          refine C_loop (σ := (List I.Ent) × Int × (List T_lecternref16_Entry) × Int) hF (fun (v : (List I.Ent) × Int × (List T_lecternref16_Entry) × Int) s' => match v with | (a67, a69, a71, a72) => ∃ (m66 : Heap) (f68 : List Nat), I.CaL m66 c2 f68 p0 a67 ∧ ∃ g70 : Nat, (g70 = 0 → a71 = []) ∧ OK m66 [mo g70 c_T_lecternref16_Entry a71, (i9, .cells [.int .i64 a69, mslO 4 g70 a71])] ∧ WS s' ⟨mkSl 79 [(5, .ptr c2 0), (7, .ptr i9 0), (38, .sl 4 (List.map c_T_lecternlaw16_Op p1) 0), (39, .int .i64 (p1.length : Int)), (40, .int .i64 a72)], Hp m66 [mo g70 c_T_lecternref16_Entry a71, (i9, .cells [.int .i64 a69, mslO 4 g70 a71])]⟩) ?_ ?_
          ·
            have hwo : WO [mo 0 c_T_lecternref16_Entry ([] : List T_lecternref16_Entry), (i9, .cells [.int .i64 p0, mslO 4 0 ([] : List T_lecternref16_Entry)])] [mo 0 c_T_lecternref16_Entry ([] : List T_lecternref16_Entry), (i9, .cells [.int .i64 p0, mslO 4 0 ([] : List T_lecternref16_Entry)])] := (.keep (.keep .nil))
            exact ⟨m3, f4, hC, 0, (fun _ => rfl), (hwo.spec ok).1, WS.mk' (.cons (.refl _) (.cons (.refl _) (.cons (.refl _) (.cons (.refl _) (.cons (.refl _) .nil))))) ok hwo⟩
          ·
            rintro G73 hG74 rec75 ⟨a67, a69, a71, a72⟩ s' ih76 hF ⟨m66, f68, hC, g70, zg70, ok, hws⟩
            refine WP_ws hws ?_
            clear hws s'
            rw [F_lecternlaw16_CachePlays_l0] at hF
            refine C_seq ?_
            refine C_reg (mdl []) ?_
            refine S_bin rfl rfl (ev_lss ..) ?_
            refine S_nil ?_
            refine C_seq ?_
            refine C_if (b := (decide (a72 < (p1.length : Int)))) rfl hF (fun hb77 hF => ?_) (fun hb77 hF => ?_)
            ·
              refine WP_skip ?_
              refine C_seq ?_
              refine WP_block ?_
              refine C_seq ?_
              refine C_reg (mdl [(9, 1)]) ?_
              refine S_m (v := .int _ _) rfl ?_
              refine S_ix rfl rfl ty_sl_35 ty_sz_38 hF (fun x78 _ hF => ?_)
              refine S_ldQ rfl (p_agg (vs := c_T_lecternlaw16_Op x78) ty_ag_38 ty_sz_38 rfl rfl) ?_
              refine S_all1 ok rfl ty_zc_38 ?_
              intro i79 hi79 ok
              refine S_a (v := .int _ _) rfl ?_
              refine S_st (j := 0) (cs' := [.int .i64 x78.Kind, .int .i64 x78.K, .int .i64 x78.V, .bool x78.Dirty]) ok rfl rfl rfl hi79 rfl ty_sz_38 rfl rfl (fun ok => ?_)
              refine S_nil ?_
              refine C_seq ?_
              refine C_seq ?_
              refine C_reg (mdl []) ?_
              refine S_m (v := .int _ _) rfl ?_
              refine S_bin rfl rfl (ev_geq ..) ?_
              refine S_nil ?_
              refine C_if (b := (decide ((300 : Int) ≤ a72))) rfl hF (fun hb80 hF => ?_) (fun hb80 hF => ?_)
              ·
                refine WP_exit ?_
                simp only [Exit.sel, Exit.blk, if_true, if_false, reduceIte, Nat.reduceEqDiff, Nat.succ_ne_zero, Nat.zero_ne_one, Nat.one_ne_zero]
                replace hF := hG74 _ (F_some hF)
                have hwo : WO [(i79, .cells [.int .i64 x78.Kind, .int .i64 x78.K, .int .i64 x78.V, .bool x78.Dirty]), mo g70 c_T_lecternref16_Entry a71, (i9, .cells [.int .i64 a69, mslO 4 g70 a71])] [] := (.drop (.drop (.drop .nil)))
                exact ⟨a67, hF, m66, f68, hC, (hwo.spec ok).1, WS.mk' .nil ok hwo⟩
              ·
                refine WP_skip ?_
                refine C_join hF (fun (v : (List I.Ent) × Int × (List T_lecternref16_Entry) × Bool) s' => match v with | (a98, a100, a102, a103) => ∃ (m97 : Heap) (f99 : List Nat), I.CaL m97 c2 f99 p0 a98 ∧ ∃ g101 : Nat, (g101 = 0 → a102 = []) ∧ OK m97 [(i9, .cells [.int .i64 a100, mslO 4 g101 a102]), mo g101 c_T_lecternref16_Entry a102] ∧ WS s' ⟨mkSl 79 [(5, .ptr c2 0), (7, .ptr i9 0), (38, .sl 4 (List.map c_T_lecternlaw16_Op p1) 0), (39, .int .i64 (p1.length : Int)), (40, .int .i64 a72), (77, .bool a103)], Hp m97 [(i9, .cells [.int .i64 a100, mslO 4 g101 a102]), mo g101 c_T_lecternref16_Entry a102]⟩) (fun J104 hF => ?_) ?_
                ·
                  refine C_fork (mdl []) [0, 1, 2, 3, 4, 5, 6, 8, 7, 9, 10, 11, 12, 13, 14, 16, 15, 17, 18, 19, 20, 21, 22, 24, 25, 26] [23, 27, 28, 29, 30] [27, 28, 23, 29, 30] [_, _, _, _, _, _, _, _, _, _, _, _, _, _, _, _, _, _, _, _, _, _, _, _, _, _] [_, _, _, _, _] [_, _, _, _, _] (by kernel_rfl) rfl rfl rfl rfl (by kernel_rfl) ?_
                  refine S_m (v := .ptr _ _) rfl ?_
                  refine S_m (v := .ptr _ _) rfl ?_
                  refine S_ldP (j := 0) ok rfl rfl rfl hi79 (p_agg (vs := c_T_lecternlaw16_Op x78) ty_ag_38 ty_sz_38 rfl rfl) ?_
                  obtain ⟨hpe, ok⟩ := Hp_pull 1 ok rfl
                  rw [hpe]; clear hpe
                  obtain ⟨hpe, ok⟩ := Hp_pull 2 ok rfl
                  rw [hpe]; clear hpe
                  refine S_call (F_lecternlaw16_plays_ok (c0 := c2) (f := f68) (q1 := i9) (b1_1 := g70) m66 [(i79, .cells [.int .i64 x78.Kind, .int .i64 x78.K, .int .i64 x78.V, .bool x78.Dirty])] hC hi9 zg70 ok hF fun x105 m106 f107 u108 _ hC zu108 ok hF => ?_) (.cons (.refl _) (.cons (.refl _) (.cons (.refl _) (.nil))))
                  refine S_un rfl (ev_not _) ?_
                  refine S_m (v := .bool _) rfl ?_
                  refine S_if (b := (!x105.1)) hF (fun hb109 hF => ?_) (fun hb110 hF => ?_)
                  ·
                    refine S_off rfl rfl hb109 ?_
                    refine S_offD ?_
                    refine S_off rfl rfl hb109 ?_
                    refine S_offD ?_
                    refine S_off rfl rfl hb109 ?_
                    refine S_offD ?_
                    refine S_off rfl rfl hb109 ?_
                    refine S_offD ?_
                    refine S_off rfl rfl hb109 ?_
                    refine S_offD ?_
                    refine S_off rfl rfl hb109 ?_
                    refine S_offD ?_
                    refine S_pickT (v := .bool _) rfl hb109 rfl ?_
                    refine S_m (v := .bool _) rfl ?_
                    refine S_off rfl rfl rfl ?_
                    refine S_offD ?_
                    refine S_off rfl rfl rfl ?_
                    refine S_offD ?_
                    refine S_off rfl rfl rfl ?_
                    refine S_offD ?_
                    refine S_off rfl rfl rfl ?_
                    refine S_offD ?_
                    refine S_off rfl rfl rfl ?_
                    refine S_offD ?_
                    refine S_off rfl rfl rfl ?_
                    refine S_offD ?_
                    refine S_pickT (v := .bool _) rfl rfl rfl ?_
                    refine S_m (v := .bool _) rfl ?_
                    refine S_off rfl rfl rfl ?_
                    refine S_offD ?_
                    refine S_off rfl rfl rfl ?_
                    refine S_offD ?_
                    refine S_off rfl rfl rfl ?_
                    refine S_offD ?_
                    refine S_off rfl rfl rfl ?_
                    refine S_offD ?_
                    refine S_nil ?_
                    refine ⟨?_, ?_⟩
                    ·
                      refine S_off rfl rfl rfl ?_
                      refine S_offD ?_
                      refine S_off rfl rfl rfl ?_
                      refine S_offD ?_
                      refine S_off rfl rfl rfl ?_
                      refine S_offD ?_
                      refine S_off rfl rfl rfl ?_
                      refine S_offD ?_
                      refine S_pickT (v := .bool _) rfl rfl rfl ?_
                      refine S_nil ?_
                      have hwo : WO [(i9, .cells [.int .i64 x105.2.2.Places, mslO 4 u108 x105.2.2.L]), mo u108 c_T_lecternref16_Entry x105.2.2.L, (i79, .cells [.int .i64 x78.Kind, .int .i64 x78.K, .int .i64 x78.V, .bool x78.Dirty])] [(i9, .cells [.int .i64 x105.2.2.Places, mslO 4 u108 x105.2.2.L]), mo u108 c_T_lecternref16_Entry x105.2.2.L] := (.keep (.keep (.drop .nil)))
                      exact ⟨(x105.2.1, x105.2.2.Places, x105.2.2.L, true), hF, m106, f107, hC, u108, zu108, (hwo.spec ok).1, WS.mk' (.cons (.refl _) (.cons (.refl _) (.cons (.refl _) (.cons (.refl _) (.cons (.refl _) (.cons (.refl _) .nil)))))) ok hwo⟩
                    ·
                      refine S_off rfl rfl rfl ?_
                      refine S_offD ?_
                      refine S_off rfl rfl rfl ?_
                      refine S_offD ?_
                      refine S_off rfl rfl rfl ?_
                      refine S_offD ?_
                      refine S_off rfl rfl rfl ?_
                      refine S_offD ?_
                      refine S_pickT (v := .bool _) rfl rfl rfl ?_
                      refine S_nil ?_
                      have hwo : WO [(i9, .cells [.int .i64 x105.2.2.Places, mslO 4 u108 x105.2.2.L]), mo u108 c_T_lecternref16_Entry x105.2.2.L, (i79, .cells [.int .i64 x78.Kind, .int .i64 x78.K, .int .i64 x78.V, .bool x78.Dirty])] [(i9, .cells [.int .i64 x105.2.2.Places, mslO 4 u108 x105.2.2.L]), mo u108 c_T_lecternref16_Entry x105.2.2.L] := (.keep (.keep (.drop .nil)))
                      exact ⟨(x105.2.1, x105.2.2.Places, x105.2.2.L, true), hF, m106, f107, hC, u108, zu108, (hwo.spec ok).1, WS.mk' (.cons (.refl _) (.cons (.refl _) (.cons (.refl _) (.cons (.refl _) (.cons (.refl _) (.cons (.refl _) .nil)))))) ok hwo⟩
                  ·
                    refine S_on rfl rfl hb110 ?_
                    refine S_in ?_
                    refine S_m (v := .ptr _ _) rfl ?_
                    refine S_nil ?_
                    refine S_on rfl rfl hb110 ?_
                    refine S_in ?_
                    refine S_m (v := .ptr _ _) rfl ?_
                    refine S_nil ?_
                    refine S_on rfl rfl hb110 ?_
                    refine S_in ?_
                    refine I.S_keysD ok hC rfl hF (fun r111 zr111 ok hF => ?_)
                    refine S_nil ?_
                    refine S_on rfl rfl hb110 ?_
                    refine S_in ?_
                    obtain ⟨hpe, ok⟩ := Hp_pull 2 ok rfl
                    rw [hpe]; clear hpe
                    obtain ⟨hpe, ok⟩ := Hp_pull 2 ok rfl
                    rw [hpe]; clear hpe
                    refine S_call (F_lecternref16_Cache_Keys_ok (q0 := i9) (b0_1 := u108) m106 [(r111, .room), (i79, .cells [.int .i64 x78.Kind, .int .i64 x78.K, .int .i64 x78.V, .bool x78.Dirty])] hi9 zu108 ok hF fun x112 _  ok hF => ?_) (.cons (.refl _) (.cons (.refl _) (.nil)))
                    refine S_nil ?_
                    refine S_on rfl rfl hb110 ?_
                    refine S_in ?_
                    refine S_call (F_lecternref05_SameInts_ok _ hF fun x113 _ hF => ?_) (.cons (.acc zr111) (.cons (.refl _) (.nil)))
                    refine S_nil ?_
                    refine S_on rfl rfl hb110 ?_
                    refine S_in ?_
                    refine S_un rfl (ev_not _) ?_
                    refine S_nil ?_
                    refine S_pickF (v := .bool _) rfl hb110 rfl ?_
                    refine S_m (v := .bool _) rfl ?_
                    refine S_if (b := (!x113)) hF (fun hb114 hF => ?_) (fun hb115 hF => ?_)
                    ·
                      refine S_off rfl rfl hb114 ?_
                      refine S_offD ?_
                      refine S_off rfl rfl hb114 ?_
                      refine S_offD ?_
                      refine S_off rfl rfl hb114 ?_
                      refine S_offD ?_
                      refine S_off rfl rfl hb114 ?_
                      refine S_offD ?_
                      refine S_off rfl rfl hb114 ?_
                      refine S_offD ?_
                      refine S_off rfl rfl hb114 ?_
                      refine S_offD ?_
                      refine S_pickT (v := .bool _) rfl hb114 rfl ?_
                      refine S_m (v := .bool _) rfl ?_
                      refine S_off rfl rfl rfl ?_
                      refine S_offD ?_
                      refine S_off rfl rfl rfl ?_
                      refine S_offD ?_
                      refine S_off rfl rfl rfl ?_
                      refine S_offD ?_
                      refine S_off rfl rfl rfl ?_
                      refine S_offD ?_
                      refine S_nil ?_
                      refine ⟨?_, ?_⟩
                      ·
                        refine S_off rfl rfl rfl ?_
                        refine S_offD ?_
                        refine S_off rfl rfl rfl ?_
                        refine S_offD ?_
                        refine S_off rfl rfl rfl ?_
                        refine S_offD ?_
                        refine S_off rfl rfl rfl ?_
                        refine S_offD ?_
                        refine S_pickT (v := .bool _) rfl rfl rfl ?_
                        refine S_nil ?_
                        have hwo : WO [(i9, .cells [.int .i64 x105.2.2.Places, mslO 4 u108 x105.2.2.L]), mo u108 c_T_lecternref16_Entry x105.2.2.L, (r111, .room), (i79, .cells [.int .i64 x78.Kind, .int .i64 x78.K, .int .i64 x78.V, .bool x78.Dirty])] [(i9, .cells [.int .i64 x105.2.2.Places, mslO 4 u108 x105.2.2.L]), mo u108 c_T_lecternref16_Entry x105.2.2.L] := (.keep (.keep (.drop (.drop .nil))))
                        exact ⟨(x105.2.1, x105.2.2.Places, x105.2.2.L, true), hF, m106, f107, hC, u108, zu108, (hwo.spec ok).1, WS.mk' (.cons (.refl _) (.cons (.refl _) (.cons (.refl _) (.cons (.refl _) (.cons (.refl _) (.cons (.refl _) .nil)))))) ok hwo⟩
                      ·
                        refine S_off rfl rfl rfl ?_
                        refine S_offD ?_
                        refine S_off rfl rfl rfl ?_
                        refine S_offD ?_
                        refine S_off rfl rfl rfl ?_
                        refine S_offD ?_
                        refine S_off rfl rfl rfl ?_
                        refine S_offD ?_
                        refine S_pickT (v := .bool _) rfl rfl rfl ?_
                        refine S_nil ?_
                        have hwo : WO [(i9, .cells [.int .i64 x105.2.2.Places, mslO 4 u108 x105.2.2.L]), mo u108 c_T_lecternref16_Entry x105.2.2.L, (r111, .room), (i79, .cells [.int .i64 x78.Kind, .int .i64 x78.K, .int .i64 x78.V, .bool x78.Dirty])] [(i9, .cells [.int .i64 x105.2.2.Places, mslO 4 u108 x105.2.2.L]), mo u108 c_T_lecternref16_Entry x105.2.2.L] := (.keep (.keep (.drop (.drop .nil))))
                        exact ⟨(x105.2.1, x105.2.2.Places, x105.2.2.L, true), hF, m106, f107, hC, u108, zu108, (hwo.spec ok).1, WS.mk' (.cons (.refl _) (.cons (.refl _) (.cons (.refl _) (.cons (.refl _) (.cons (.refl _) (.cons (.refl _) .nil)))))) ok hwo⟩
                    ·
                      refine S_on rfl rfl hb115 ?_
                      refine S_in ?_
                      refine S_m (v := .ptr _ _) rfl ?_
                      refine S_nil ?_
                      refine S_on rfl rfl hb115 ?_
                      refine S_in ?_
                      refine S_m (v := .ptr _ _) rfl ?_
                      refine S_nil ?_
                      refine S_on rfl rfl hb115 ?_
                      refine S_in ?_
                      refine I.S_dirtyD ok hC rfl hF (fun r116 zr116 ok hF => ?_)
                      refine S_nil ?_
                      refine S_on rfl rfl hb115 ?_
                      refine S_in ?_
                      obtain ⟨hpe, ok⟩ := Hp_pull 2 ok rfl
                      rw [hpe]; clear hpe
                      obtain ⟨hpe, ok⟩ := Hp_pull 2 ok rfl
                      rw [hpe]; clear hpe
                      refine S_call (F_lecternref16_Cache_Keys_ok (q0 := i9) (b0_1 := u108) m106 [(r116, .room), (r111, .room), (i79, .cells [.int .i64 x78.Kind, .int .i64 x78.K, .int .i64 x78.V, .bool x78.Dirty])] hi9 zu108 ok hF fun x117 _  ok hF => ?_) (.cons (.refl _) (.cons (.refl _) (.nil)))
                      refine S_nil ?_
                      refine S_on rfl rfl hb115 ?_
                      refine S_in ?_
                      refine S_call (F_lecternref05_SameInts_ok _ hF fun x118 _ hF => ?_) (.cons (.acc zr116) (.cons (.refl _) (.nil)))
                      refine S_nil ?_
                      refine S_on rfl rfl hb115 ?_
                      refine S_in ?_
                      refine S_un rfl (ev_not _) ?_
                      refine S_nil ?_
                      refine S_pickF (v := .bool _) rfl hb115 rfl ?_
                      refine S_m (v := .bool _) rfl ?_
                      refine S_if (b := (!x118)) hF (fun hb119 hF => ?_) (fun hb120 hF => ?_)
                      ·
                        refine S_off rfl rfl hb119 ?_
                        refine S_offD ?_
                        refine S_off rfl rfl hb119 ?_
                        refine S_offD ?_
                        refine S_off rfl rfl hb119 ?_
                        refine S_offD ?_
                        refine S_off rfl rfl hb119 ?_
                        refine S_offD ?_
                        refine S_nil ?_
                        refine ⟨?_, ?_⟩
                        ·
                          refine S_off rfl rfl hb119 ?_
                          refine S_offD ?_
                          refine S_off rfl rfl hb119 ?_
                          refine S_offD ?_
                          refine S_off rfl rfl hb119 ?_
                          refine S_offD ?_
                          refine S_off rfl rfl hb119 ?_
                          refine S_offD ?_
                          refine S_pickT (v := .bool _) rfl hb119 rfl ?_
                          refine S_nil ?_
                          have hwo : WO [(i9, .cells [.int .i64 x105.2.2.Places, mslO 4 u108 x105.2.2.L]), mo u108 c_T_lecternref16_Entry x105.2.2.L, (r116, .room), (r111, .room), (i79, .cells [.int .i64 x78.Kind, .int .i64 x78.K, .int .i64 x78.V, .bool x78.Dirty])] [(i9, .cells [.int .i64 x105.2.2.Places, mslO 4 u108 x105.2.2.L]), mo u108 c_T_lecternref16_Entry x105.2.2.L] := (.keep (.keep (.drop (.drop (.drop .nil)))))
                          exact ⟨(x105.2.1, x105.2.2.Places, x105.2.2.L, true), hF, m106, f107, hC, u108, zu108, (hwo.spec ok).1, WS.mk' (.cons (.refl _) (.cons (.refl _) (.cons (.refl _) (.cons (.refl _) (.cons (.refl _) (.cons (.refl _) .nil)))))) ok hwo⟩
                        ·
                          refine S_off rfl rfl hb119 ?_
                          refine S_offD ?_
                          refine S_off rfl rfl hb119 ?_
                          refine S_offD ?_
                          refine S_off rfl rfl hb119 ?_
                          refine S_offD ?_
                          refine S_off rfl rfl hb119 ?_
                          refine S_offD ?_
                          refine S_pickT (v := .bool _) rfl hb119 rfl ?_
                          refine S_nil ?_
                          have hwo : WO [(i9, .cells [.int .i64 x105.2.2.Places, mslO 4 u108 x105.2.2.L]), mo u108 c_T_lecternref16_Entry x105.2.2.L, (r116, .room), (r111, .room), (i79, .cells [.int .i64 x78.Kind, .int .i64 x78.K, .int .i64 x78.V, .bool x78.Dirty])] [(i9, .cells [.int .i64 x105.2.2.Places, mslO 4 u108 x105.2.2.L]), mo u108 c_T_lecternref16_Entry x105.2.2.L] := (.keep (.keep (.drop (.drop (.drop .nil)))))
                          exact ⟨(x105.2.1, x105.2.2.Places, x105.2.2.L, true), hF, m106, f107, hC, u108, zu108, (hwo.spec ok).1, WS.mk' (.cons (.refl _) (.cons (.refl _) (.cons (.refl _) (.cons (.refl _) (.cons (.refl _) (.cons (.refl _) .nil)))))) ok hwo⟩
                      ·
                        refine S_on rfl rfl hb120 ?_
                        refine S_in ?_
                        refine S_m (v := .ptr _ _) rfl ?_
                        refine S_nil ?_
                        refine S_on rfl rfl hb120 ?_
                        refine S_in ?_
                        refine S_m (v := .ptr _ _) rfl ?_
                        refine S_nil ?_
                        refine S_on rfl rfl hb120 ?_
                        refine S_in ?_
                        refine S_nilc (v := .ptr _ _) rfl rfl ?_
                        refine S_nil ?_
                        refine S_on rfl rfl hb120 ?_
                        refine S_in ?_
                        refine S_faP rfl ty_fd_46_1 ty_sz_44 ?_
                        refine S_nil ?_
                        refine S_nil ?_
                        refine ⟨?_, ?_⟩
                        ·
                          refine S_on rfl rfl hb120 ?_
                          refine S_in ?_
                          refine I.S_clen ok hC rfl ?_
                          refine S_nil ?_
                          refine S_on rfl rfl hb120 ?_
                          refine S_in ?_
                          refine S_ldP (j := 0) ok rfl rfl rfl hi9 (p_one (v := mslO 4 u108 x105.2.2.L) ty_ag_44 ty_sz_44 rfl) ?_
                          refine S_nil ?_
                          refine S_on rfl rfl hb120 ?_
                          refine S_in ?_
                          refine S_lenO zu108 rfl ty_sl_44 ?_
                          refine S_nil ?_
                          refine S_on rfl rfl hb120 ?_
                          refine S_in ?_
                          refine S_bin rfl rfl (ev_neq ..) ?_
                          refine S_nil ?_
                          refine S_pickF (v := .bool _) rfl hb120 rfl ?_
                          refine S_nil ?_
                          have hwo : WO [(i9, .cells [.int .i64 x105.2.2.Places, mslO 4 u108 x105.2.2.L]), mo u108 c_T_lecternref16_Entry x105.2.2.L, (r116, .room), (r111, .room), (i79, .cells [.int .i64 x78.Kind, .int .i64 x78.K, .int .i64 x78.V, .bool x78.Dirty])] [(i9, .cells [.int .i64 x105.2.2.Places, mslO 4 u108 x105.2.2.L]), mo u108 c_T_lecternref16_Entry x105.2.2.L] := (.keep (.keep (.drop (.drop (.drop .nil)))))
                          exact ⟨(x105.2.1, x105.2.2.Places, x105.2.2.L, ((x105.2.1.length : Int) != (x105.2.2.L.length : Int))), hF, m106, f107, hC, u108, zu108, (hwo.spec ok).1, WS.mk' (.cons (.refl _) (.cons (.refl _) (.cons (.refl _) (.cons (.refl _) (.cons (.refl _) (.cons (.refl _) .nil)))))) ok hwo⟩
                        ·
                          refine S_on rfl rfl hb120 ?_
                          refine S_in ?_
                          refine S_ldP (j := 0) ok rfl rfl rfl hi9 (p_one (v := mslO 4 u108 x105.2.2.L) ty_ag_44 ty_sz_44 rfl) ?_
                          refine S_nil ?_
                          refine S_on rfl rfl hb120 ?_
                          refine S_in ?_
                          refine S_lenO zu108 rfl ty_sl_44 ?_
                          refine S_nil ?_
                          refine S_on rfl rfl hb120 ?_
                          refine S_in ?_
                          refine I.S_clen ok hC rfl ?_
                          refine S_nil ?_
                          refine S_on rfl rfl hb120 ?_
                          refine S_in ?_
                          refine S_bin rfl rfl (ev_neq ..) ?_
                          refine S_nil ?_
                          refine S_pickF (v := .bool _) rfl hb120 rfl ?_
                          refine S_nil ?_
                          have hwo : WO [(i9, .cells [.int .i64 x105.2.2.Places, mslO 4 u108 x105.2.2.L]), mo u108 c_T_lecternref16_Entry x105.2.2.L, (r116, .room), (r111, .room), (i79, .cells [.int .i64 x78.Kind, .int .i64 x78.K, .int .i64 x78.V, .bool x78.Dirty])] [(i9, .cells [.int .i64 x105.2.2.Places, mslO 4 u108 x105.2.2.L]), mo u108 c_T_lecternref16_Entry x105.2.2.L] := (.keep (.keep (.drop (.drop (.drop .nil)))))
                          exact ⟨(x105.2.1, x105.2.2.Places, x105.2.2.L, ((x105.2.1.length : Int) != (x105.2.2.L.length : Int))), hF, m106, f107, hC, u108, zu108, (hwo.spec ok).1, WS.mk' (.cons (.refl _) (.cons (.refl _) (.cons (.refl _) (.cons (.refl _) (.cons (.refl _) (.cons (.refl _) .nil)))))) ok hwo⟩
                ·
                  rintro ⟨a98, a100, a102, a103⟩ s' hF ⟨m97, f99, hC, g101, zg101, ok, hws⟩
                  refine WP_ws hws ?_
                  clear hws s'
                  refine C_if (b := a103) rfl hF (fun hb121 hF => ?_) (fun hb121 hF => ?_)
                  ·
                    refine C_seq ?_
                    refine C_reg (mdl []) ?_
                    refine S_a (v := .bool _) rfl ?_
                    refine S_nil ?_
                    refine WP_ret ?_
                    replace hF := hG74 _ (F_some hF)
                    repeat (first | with_reducible refine Exit.sel_ret ?_ | with_reducible refine Exit.blk_ret ?_)
                    refine C_ret (fn := Try.f5) rfl (.tmp (v := .bool false) rfl .nil) ?_
                    exact ⟨_, _, (.refl _), WH.refl _, _, F_some hF, rfl⟩
                  ·
                    refine WP_skip ?_
                    refine C_reg (mdl []) ?_
                    refine S_bin rfl rfl (ev_add ..) ?_
                    refine S_m (v := .int _ _) rfl ?_
                    refine S_nil ?_
                    refine ih76 (a98, a100, a102, (IntKind.wrap .i64 (a72 + (1 : Int)))) _ hF ?_
                    obtain ⟨hpe, ok⟩ := Hp_pull 1 ok rfl
                    rw [hpe]; clear hpe
                    have hwo : WO [mo g101 c_T_lecternref16_Entry a102, (i9, .cells [.int .i64 a100, mslO 4 g101 a102])] [mo g101 c_T_lecternref16_Entry a102, (i9, .cells [.int .i64 a100, mslO 4 g101 a102])] := (.keep (.keep .nil))
                    exact ⟨m97, f99, hC, g101, zg101, (hwo.spec ok).1, WS.mk' (.cons (.refl _) (.cons (.refl _) (.cons (.refl _) (.cons (.refl _) (.cons (.refl _) .nil))))) ok hwo⟩
            ·
              refine WP_exit ?_
              simp only [Exit.sel, Exit.blk, if_true, if_false, reduceIte, Nat.reduceEqDiff, Nat.succ_ne_zero, Nat.zero_ne_one, Nat.one_ne_zero]
              replace hF := hG74 _ (F_some hF)
              have hwo : WO [mo g70 c_T_lecternref16_Entry a71, (i9, .cells [.int .i64 a69, mslO 4 g70 a71])] [] := (.drop (.drop .nil))
              exact ⟨a67, hF, m66, f68, hC, (hwo.spec ok).1, WS.mk' .nil ok hwo⟩
        ·
          rintro a63 s' hF ⟨m62, f64, hC, ok, hws⟩
          refine WP_ws hws ?_
          clear hws s'
          refine C_seq ?_
          refine C_reg (mdl []) ?_
          refine S_a (v := .bool _) rfl ?_
          refine S_nil ?_
          refine WP_ret ?_
          repeat (first | with_reducible refine Exit.sel_ret ?_ | with_reducible refine Exit.blk_ret ?_)
          refine C_ret (fn := Try.f5) rfl (.tmp (v := .bool true) rfl .nil) ?_
          exact ⟨_, _, (.refl _), WH.refl _, _, F_some hF, rfl⟩
  ·
    refine S_m (v := .tup _) rfl ?_
    refine S_ext rfl rfl ?_
    refine S_ext rfl rfl ?_
    refine S_a (v := .nilp) rfl ?_
    refine S_a (v := .int _ _) rfl ?_
    refine S_nil ?_
    refine C_seq ?_
    refine C_seq ?_
    refine C_reg (mdl []) ?_
    refine S_m (v := .int _ _) rfl ?_
    refine S_bin rfl rfl (ev_lss ..) ?_
    refine S_m (v := .bool _) rfl ?_
    refine S_two (b := (decide (p0 < (1 : Int)))) 3 22 (.bool ((decide (p0 < (1 : Int))) || (decide ((65536 : Int) < p0)))) (fun hb122 => ?_) (fun hb122 => ?_) ?_
    ·
      refine S_off rfl rfl hb122 ?_
      refine S_offD ?_
      refine S_off rfl rfl hb122 ?_
      refine S_offD ?_
      refine S_pickT (v := .bool _) rfl hb122 rfl ?_
      refine S_nil ?_
      refine .hd (or_t hb122) ?_
      repeat (first | with_reducible exact WS.refl _ | refine WS.add ?_ rfl)
    ·
      refine S_on rfl rfl hb122 ?_
      refine S_in ?_
      refine S_m (v := .int _ _) rfl ?_
      refine S_nil ?_
      refine S_on rfl rfl hb122 ?_
      refine S_in ?_
      refine S_bin rfl rfl (ev_gtr ..) ?_
      refine S_nil ?_
      refine S_pickF (v := .bool _) rfl hb122 rfl ?_
      refine S_nil ?_
      refine .hd (or_f hb122) ?_
      repeat (first | with_reducible exact WS.refl _ | refine WS.add ?_ rfl)
    refine S_nil ?_
    refine C_if (b := ((decide (p0 < (1 : Int))) || (decide ((65536 : Int) < p0)))) rfl hF (fun hb123 hF => ?_) (fun hb123 hF => ?_)
    ·
      refine C_seq ?_
      refine C_reg (mdl []) ?_
      refine S_m (v := .nilp) rfl ?_
      refine S_bin rfl rfl (e_nn (by rw [ty_pt_25]; rfl)) ?_
      refine S_m (v := .bool _) rfl ?_
      refine S_on rfl rfl rfl ?_
      refine S_in ?_
      refine S_m (v := .int _ _) rfl ?_
      refine S_nil ?_
      refine S_on rfl rfl rfl ?_
      refine S_in ?_
      refine S_bin rfl rfl (ev_eql ..) ?_
      refine S_nil ?_
      refine S_pickT (v := .bool _) rfl rfl rfl ?_
      refine S_a (v := .bool _) rfl ?_
      refine S_nil ?_
      refine WP_ret ?_
      repeat (first | with_reducible refine Exit.sel_ret ?_ | with_reducible refine Exit.blk_ret ?_)
      refine C_ret (fn := Try.f5) rfl (.tmp (v := .bool ((1 : Int) == (1 : Int))) rfl .nil) ?_
      exact ⟨_, _, (.refl _), WH.refl _, _, F_some hF, rfl⟩
    ·
      refine WP_skip ?_
      refine C_seq ?_
      refine C_seq ?_
      refine C_reg (mdl []) ?_
      refine S_m (v := .nilp) rfl ?_
      refine S_bin rfl rfl (e_nn (by rw [ty_pt_25]; rfl)) ?_
      refine S_m (v := .bool _) rfl ?_
      refine S_off rfl rfl rfl ?_
      refine S_offD ?_
      refine S_off rfl rfl rfl ?_
      refine S_offD ?_
      refine S_pickT (v := .bool _) rfl rfl rfl ?_
      refine S_nil ?_
      refine C_tt rfl rfl ?_
      refine C_seq ?_
      refine C_reg (mdl []) ?_
      refine S_a (v := .bool _) rfl ?_
      refine S_nil ?_
      refine WP_ret ?_
      repeat (first | with_reducible refine Exit.sel_ret ?_ | with_reducible refine Exit.blk_ret ?_)
      refine C_ret (fn := Try.f5) rfl (.tmp (v := .bool false) rfl .nil) ?_
      exact ⟨_, _, (.refl _), WH.refl _, _, F_some hF, rfl⟩
end Go.Proofs.Ytcjndiagbdkikaa
