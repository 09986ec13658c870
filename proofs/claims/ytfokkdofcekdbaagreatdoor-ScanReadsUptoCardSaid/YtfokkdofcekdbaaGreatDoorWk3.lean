/- The walks. No condition. -/
import Derived.Test.YtfokkdofcekdbaaGreatDoorWk2
set_option linter.unusedVariables false
set_option linter.unusedSimpArgs false
set_option maxRecDepth 20000
set_option maxHeartbeats 8000000
namespace Go.Proofs.YtfokkdofcekdbaaGreatDoor
theorem Fa_Char_w (p0 : Int) {G : Bool → Prop} (h : Heap) (hF : OptP (Fa_Char p0) G) : CallsA Tryz.prog 33 [.I p0] h fun d h' => ∃ r, G r ∧ d = .bool r ∧ h' = h := by
 refine CallsA.ret (C_body Tryz.func33 rfl en_33 Tryz.ntmps33 rfl (fun ok => ?_))
 rw [Fa_Char] at hF
 refine CR (Ab rfl (Sn (CR (Mi rfl (S_bin rfl rfl (ev_eql ..) (Mb rfl ?_))))))
 refine S_two (b := (p0 == (9 : Int))) 3 8 (.bool ((p0 == (9 : Int)) || (p0 == (10 : Int)))) (fun hb1 => ?_) (fun hb1 => ?_) ?_
 ·refine So rfl rfl hb1 (So rfl rfl hb1 (S_pickT (v := .bool _) rfl hb1 rfl (Sn (.hd (or_t hb1) ?_))))
  repeat first | with_reducible exact .refl _ | refine .add ?_ rfl
 ·refine Sx rfl rfl hb1 (Mi rfl (Sn (Sx rfl rfl hb1 (S_bin rfl rfl (ev_eql ..) (Sn (S_pickF (v := .bool _) rfl hb1 rfl (Sn (.hd (or_f hb1) ?_))))))))
  repeat first | with_reducible exact .refl _ | refine .add ?_ rfl
 refine Mb rfl ?_
 refine S_two (b := ((p0 == (9 : Int)) || (p0 == (10 : Int)))) 3 12 (.bool (((p0 == (9 : Int)) || (p0 == (10 : Int))) || (p0 == (13 : Int)))) (fun hb2 => ?_) (fun hb2 => ?_) ?_
 ·refine So rfl rfl hb2 (So rfl rfl hb2 (S_pickT (v := .bool _) rfl hb2 rfl (Sn (.hd (or_t hb2) ?_))))
  repeat first | with_reducible exact .refl _ | refine .add ?_ rfl
 ·refine Sx rfl rfl hb2 (Mi rfl (Sn (Sx rfl rfl hb2 (S_bin rfl rfl (ev_eql ..) (Sn (S_pickF (v := .bool _) rfl hb2 rfl (Sn (.hd (or_f hb2) ?_))))))))
  repeat first | with_reducible exact .refl _ | refine .add ?_ rfl
 refine Mb rfl ?_
 refine S_two (b := (((p0 == (9 : Int)) || (p0 == (10 : Int))) || (p0 == (13 : Int)))) 7 20 (.bool ((((p0 == (9 : Int)) || (p0 == (10 : Int))) || (p0 == (13 : Int))) || ((decide ((32 : Int) ≤ p0)) && (decide (p0 ≤ (55295 : Int)))))) (fun hb3 => ?_) (fun hb3 => ?_) ?_
 ·refine So rfl rfl hb3 (So rfl rfl hb3 (So rfl rfl hb3 (S_off2 rfl rfl (S_offD (S_off2 rfl rfl (S_offD (So rfl rfl hb3 (S_pickT (v := .bool _) rfl hb3 rfl (Sn (.hd (or_t hb3) ?_))))))))))
  repeat first | with_reducible exact .refl _ | refine .add ?_ rfl
 ·refine Sx rfl rfl hb3 (Mi rfl (Sn (Sx rfl rfl hb3 (S_bin rfl rfl (ev_geq ..) (Sn (Sx rfl rfl hb3 (Mb rfl (Sn ?_))))))))
  refine S_two (b := (decide ((32 : Int) ≤ p0))) 3 19 (.bool ((decide ((32 : Int) ≤ p0)) && (decide (p0 ≤ (55295 : Int))))) (fun hb5 => ?_) (fun hb5 => ?_) ?_
  ·refine Sx rfl rfl hb5 (Mi rfl (Sn (Sx rfl rfl hb5 (S_bin rfl rfl (ev_leq ..) (Sn (Sx rfl rfl hb3 (S_pickT (v := .bool _) rfl hb5 rfl (Sn (Sn (.hd (and_t hb5) ?_))))))))))
   repeat first | with_reducible exact .refl _ | refine .add ?_ rfl
  ·refine So rfl rfl hb5 (So rfl rfl hb5 (Sx rfl rfl hb3 (S_pickF (v := .bool _) rfl hb5 rfl (Sn (Sn (.hd (and_f hb5) ?_))))))
   repeat first | with_reducible exact .refl _ | refine .add ?_ rfl
  refine S_pickF (v := .bool _) rfl hb3 rfl (Sn (.hd (or_f hb3) ?_))
  repeat first | with_reducible exact .refl _ | refine .add ?_ rfl
 refine Mb rfl ?_
 refine S_two (b := ((((p0 == (9 : Int)) || (p0 == (10 : Int))) || (p0 == (13 : Int))) || ((decide ((32 : Int) ≤ p0)) && (decide (p0 ≤ (55295 : Int)))))) 7 28 (.bool (((((p0 == (9 : Int)) || (p0 == (10 : Int))) || (p0 == (13 : Int))) || ((decide ((32 : Int) ≤ p0)) && (decide (p0 ≤ (55295 : Int))))) || ((decide ((57344 : Int) ≤ p0)) && (decide (p0 ≤ (65533 : Int)))))) (fun hb6 => ?_) (fun hb6 => ?_) ?_
 ·refine So rfl rfl hb6 (So rfl rfl hb6 (So rfl rfl hb6 (S_off2 rfl rfl (S_offD (S_off2 rfl rfl (S_offD (So rfl rfl hb6 (S_pickT (v := .bool _) rfl hb6 rfl (Sn (.hd (or_t hb6) ?_))))))))))
  repeat first | with_reducible exact .refl _ | refine .add ?_ rfl
 ·refine Sx rfl rfl hb6 (Mi rfl (Sn (Sx rfl rfl hb6 (S_bin rfl rfl (ev_geq ..) (Sn (Sx rfl rfl hb6 (Mb rfl (Sn ?_))))))))
  refine S_two (b := (decide ((57344 : Int) ≤ p0))) 3 27 (.bool ((decide ((57344 : Int) ≤ p0)) && (decide (p0 ≤ (65533 : Int))))) (fun hb8 => ?_) (fun hb8 => ?_) ?_
  ·refine Sx rfl rfl hb8 (Mi rfl (Sn (Sx rfl rfl hb8 (S_bin rfl rfl (ev_leq ..) (Sn (Sx rfl rfl hb6 (S_pickT (v := .bool _) rfl hb8 rfl (Sn (Sn (.hd (and_t hb8) ?_))))))))))
   repeat first | with_reducible exact .refl _ | refine .add ?_ rfl
  ·refine So rfl rfl hb8 (So rfl rfl hb8 (Sx rfl rfl hb6 (S_pickF (v := .bool _) rfl hb8 rfl (Sn (Sn (.hd (and_f hb8) ?_))))))
   repeat first | with_reducible exact .refl _ | refine .add ?_ rfl
  refine S_pickF (v := .bool _) rfl hb6 rfl (Sn (.hd (or_f hb6) ?_))
  repeat first | with_reducible exact .refl _ | refine .add ?_ rfl
 refine Mb rfl ?_
 refine S_two (b := (((((p0 == (9 : Int)) || (p0 == (10 : Int))) || (p0 == (13 : Int))) || ((decide ((32 : Int) ≤ p0)) && (decide (p0 ≤ (55295 : Int))))) || ((decide ((57344 : Int) ≤ p0)) && (decide (p0 ≤ (65533 : Int)))))) 7 36 (.bool ((((((p0 == (9 : Int)) || (p0 == (10 : Int))) || (p0 == (13 : Int))) || ((decide ((32 : Int) ≤ p0)) && (decide (p0 ≤ (55295 : Int))))) || ((decide ((57344 : Int) ≤ p0)) && (decide (p0 ≤ (65533 : Int))))) || ((decide ((65536 : Int) ≤ p0)) && (decide (p0 ≤ (1114111 : Int)))))) (fun hb9 => ?_) (fun hb9 => ?_) ?_
 ·refine So rfl rfl hb9 (So rfl rfl hb9 (So rfl rfl hb9 (S_off2 rfl rfl (S_offD (S_off2 rfl rfl (S_offD (So rfl rfl hb9 (S_pickT (v := .bool _) rfl hb9 rfl (Sn (.hd (or_t hb9) ?_))))))))))
  repeat first | with_reducible exact .refl _ | refine .add ?_ rfl
 ·refine Sx rfl rfl hb9 (Mi rfl (Sn (Sx rfl rfl hb9 (S_bin rfl rfl (ev_geq ..) (Sn (Sx rfl rfl hb9 (Mb rfl (Sn ?_))))))))
  refine S_two (b := (decide ((65536 : Int) ≤ p0))) 3 35 (.bool ((decide ((65536 : Int) ≤ p0)) && (decide (p0 ≤ (1114111 : Int))))) (fun hb11 => ?_) (fun hb11 => ?_) ?_
  ·refine Sx rfl rfl hb11 (Mi rfl (Sn (Sx rfl rfl hb11 (S_bin rfl rfl (ev_leq ..) (Sn (Sx rfl rfl hb9 (S_pickT (v := .bool _) rfl hb11 rfl (Sn (Sn (.hd (and_t hb11) ?_))))))))))
   repeat first | with_reducible exact .refl _ | refine .add ?_ rfl
  ·refine So rfl rfl hb11 (So rfl rfl hb11 (Sx rfl rfl hb9 (S_pickF (v := .bool _) rfl hb11 rfl (Sn (Sn (.hd (and_f hb11) ?_))))))
   repeat first | with_reducible exact .refl _ | refine .add ?_ rfl
  refine S_pickF (v := .bool _) rfl hb9 rfl (Sn (.hd (or_f hb9) ?_))
  repeat first | with_reducible exact .refl _ | refine .add ?_ rfl
 refine Ab rfl (Sn (WP_ret ?_))
 with_reducible repeat first | apply Exit.sr | apply Exit.br | apply Exit.jr
 refine C_ret (fn := Tryz.f33) rfl (.tmp (v := .bool ((((((p0 == (9 : Int)) || (p0 == (10 : Int))) || (p0 == (13 : Int))) || ((decide ((32 : Int) ≤ p0)) && (decide (p0 ≤ (55295 : Int))))) || ((decide ((57344 : Int) ≤ p0)) && (decide (p0 ≤ (65533 : Int))))) || ((decide ((65536 : Int) ≤ p0)) && (decide (p0 ≤ (1114111 : Int)))))) rfl .nil) ?_
 exact ⟨_, _, (.refl _), ok.wh, _, F_some hF, rfl, rfl⟩
theorem Fa_Char_ok {β : Type} {f : Bool → Option β} {G : β → Prop} {R : D → Heap → Prop} {p0 : Int} (h : Heap) (hF : OptP ((Fa_Char p0).bind f) G) (hk : ∀ r, Fa_Char p0 = some r → OptP (f r) G → R (.bool r) h) : CallsA Tryz.prog 33 [.I p0] h R := by
 obtain ⟨r0, hr, hF⟩ := F_bind hF
 refine (Fa_Char_w (G := fun r => r = r0) p0 h ⟨r0, hr, rfl⟩).mono ?_
 rintro _ _ ⟨r, rfl, rfl, rfl⟩
 exact hk _ hr hF
theorem Fa_Fault_w (p0 : LB) {G : Int × Int → Prop} (h : Heap) (hF : OptP (Fa_Fault p0) G) : CallsA Tryz.prog 16 [.sl 1 (List.map c_u8 p0) 0] h fun d h' => ∃ r, G r ∧ d = .tup [.I r.1, .I r.2] ∧ h' = h := by
 refine CallsA.ret (C_body Tryz.func16 rfl en_16 Tryz.ntmps16 rfl (fun ok => ?_))
 rw [Fa_Fault] at hF
 refine CR (Ai rfl (Ai rfl (Sn ?_)))
 refine C_join hF (fun (_ : Unit) s' => OK h [] ∧ WS s' ⟨mkSl 27 [], Hp h []⟩) (fun J7 hF => ?_) ?_
 ·refine CR (Ai rfl (Sn (WP_block ?_)))
  refine C_loop (σ := Int) hF (fun (a8 : Int) s' => OK h [] ∧ WS s' ⟨mkSl 27 [(0, .sl 1 (List.map c_u8 p0) 0), (4, .I a8)], Hp h []⟩) ?_ ?_
  ·exact ⟨ok, WS.mk' (.k (.k .nil)) ok (.refl _)⟩
  ·rintro G9 hG10 rec11 a8 s' ih12 hF ⟨ok, hws⟩
   refine WP_ws hws ?_
   clear hws s'
   rw [Fa_Fault_l0] at hF
   refine C_seq (CR (Mi rfl (Ml rfl (S_lenL rfl ty_sl_22 (S_bin rfl rfl (ev_lss ..) (Sn ?_))))))
   refine C_if (b := (decide (a8 < (p0.length : Int)))) rfl hF (fun hb13 hF => ?_) (fun hb13 hF => ?_)
   ·refine WP_skip (WP_block (CR (Ml rfl (Mi rfl (S_call (Fa_Read_ok _ hF fun x14 _ hF => (S_m (v := .tup _) rfl (S_ext rfl rfl (S_ext rfl rfl (Ai rfl (Ai rfl (Sn (C_seq (CR (Mi rfl (S_bin rfl rfl (ev_eql ..) (Sn ?_)))))))))))) (.refl _))))))
    refine C_if (b := (x14.2 == (0 : Int))) rfl hF (fun hb15 hF => ?_) (fun hb15 hF => ?_)
    ·refine CR (Mi rfl (Ai rfl (Ai rfl (Sn (WP_ret ?_)))))
     replace hF := hG10 _ (F_some hF)
     with_reducible repeat first | apply Exit.sr | apply Exit.br | apply Exit.jr
     refine C_ret (fn := Tryz.f16) rfl (.tmp (v := .I a8) rfl (.tmp (v := .I 20) rfl .nil)) ?_
     exact ⟨_, _, (.refl _), ok.wh, _, F_some hF, rfl, rfl⟩
    ·refine WP_skip (C_seq (CR (Mi rfl (S_call (Fa_Char_ok _ hF fun x16 _ hF => (S_un rfl (ev_not _) (Sn ?_))) (.refl _)))))
     refine C_if (b := (!x16)) rfl hF (fun hb17 hF => ?_) (fun hb17 hF => ?_)
     ·refine CR (Mi rfl (Ai rfl (Ai rfl (Sn (WP_ret ?_)))))
      replace hF := hG10 _ (F_some hF)
      with_reducible repeat first | apply Exit.sr | apply Exit.br | apply Exit.jr
      refine C_ret (fn := Tryz.f16) rfl (.tmp (v := .I a8) rfl (.tmp (v := .I 21) rfl .nil)) ?_
      exact ⟨_, _, (.refl _), ok.wh, _, F_some hF, rfl, rfl⟩
     ·refine WP_skip (C_reg (mdl []) (Mi rfl (Mi rfl (S_bin rfl rfl (ev_add ..) (Ai rfl (Sn (ih12 (IntKind.wrap .i64 (a8 + x14.2)) _ hF ?_)))))))
      exact ⟨ok, WS.mk' (.k (.k .nil)) ok (.refl _)⟩
   ·refine WP_exit ?_
    simp only [Exit.sel, Exit.blk, Exit.jmp, if_true, if_false, reduceIte, Nat.reduceEqDiff, Nat.succ_ne_zero, Nat.zero_ne_one, Nat.one_ne_zero]
    replace hF := hG10 _ (F_some hF)
    exact ⟨(), hF, ok, WS.mk' .nil ok (.refl _)⟩
 ·rintro ⟨⟩ s' hF ⟨ok, hws⟩
  refine WP_ws hws ?_
  clear hws s'
  refine CR (Ai rfl (Ai rfl (Sn (WP_ret ?_))))
  with_reducible repeat first | apply Exit.sr | apply Exit.br | apply Exit.jr
  refine C_ret (fn := Tryz.f16) rfl (.tmp (v := .I 0) rfl (.tmp (v := .I 0) rfl .nil)) ?_
  exact ⟨_, _, (.refl _), ok.wh, _, F_some hF, rfl, rfl⟩
theorem Fa_Fault_ok {β : Type} {f : Int × Int → Option β} {G : β → Prop} {R : D → Heap → Prop} {p0 : LB} (h : Heap) (hF : OptP ((Fa_Fault p0).bind f) G) (hk : ∀ r, Fa_Fault p0 = some r → OptP (f r) G → R (.tup [.I r.1, .I r.2]) h) : CallsA Tryz.prog 16 [.sl 1 (List.map c_u8 p0) 0] h R := by
 obtain ⟨r0, hr, hF⟩ := F_bind hF
 refine (Fa_Fault_w (G := fun r => r = r0) p0 h ⟨r0, hr, rfl⟩).mono ?_
 rintro _ _ ⟨r, rfl, rfl, rfl⟩
 exact hk _ hr hF
theorem Fc_Stands_w (p0 : LB) (p1 : Int) (p2 : LB) {G : Bool → Prop} (h : Heap) (hF : OptP (Fc_Stands p0 p1 p2) G) : CallsA Tryz.prog 34 [.str p0, .I p1, .str p2] h fun d h' => ∃ r, G r ∧ d = .bool r ∧ h' = h := by
 refine CallsA.ret (C_body Tryz.func34 rfl en_34 Tryz.ntmps34 rfl (fun ok => ?_))
 rw [Fc_Stands] at hF
 refine CR (Ab rfl (Sn (CR (Mi rfl (Ms rfl (S_lenS rfl ty_st_9 (S_bin rfl rfl (ev_add ..) (Ms rfl (S_lenS rfl ty_st_9 (S_bin rfl rfl (ev_leq ..) (Mb rfl ?_)))))))))))
 refine S_twoJ 10 24 hF (fun J2 hb1 hF => ?_) (fun J2 hb1 hF => ?_) (fun v3 hF => ?_)
 ·refine Sx rfl rfl hb1 (Ms rfl (Sn (Sx rfl rfl hb1 (Mi rfl (Sn (Sx rfl rfl hb1 (Mi rfl (Sn (Sx rfl rfl hb1 (Ms rfl (Sn (Sx rfl rfl hb1 (S_lenS rfl ty_st_9 (Sn (Sx rfl rfl hb1 (S_bin rfl rfl (ev_add ..) (Sn (Sx rfl rfl hb1 (S_slS rfl ty_st_9 (bd_at rfl) (bd_at rfl) hF (fun x4 _ hF => Sn (Sx rfl rfl hb1 (Ms rfl (Sn (Sx rfl rfl hb1 (S_bin rfl rfl e_seql (Sn (S_pickT (v := .bool _) rfl hb1 rfl (Sn ?_))))))))))))))))))))))))))))
  refine ⟨_, hF, .hd (.refl _) ?_⟩
  repeat first | with_reducible exact .refl _ | refine .add ?_ rfl
 ·refine So rfl rfl hb1 (So rfl rfl hb1 (So rfl rfl hb1 (So rfl rfl hb1 (So rfl rfl hb1 (So rfl rfl hb1 (So rfl rfl hb1 (So rfl rfl hb1 (So rfl rfl hb1 (S_pickF (v := .bool _) rfl hb1 rfl (Sn ?_))))))))))
  refine ⟨_, hF, .hd (.refl _) ?_⟩
  repeat first | with_reducible exact .refl _ | refine .add ?_ rfl
 ·refine Ab rfl (Sn (WP_ret ?_))
  with_reducible repeat first | apply Exit.sr | apply Exit.br | apply Exit.jr
  refine C_ret (fn := Tryz.f34) rfl (.tmp (v := .bool v3) rfl .nil) ?_
  exact ⟨_, _, (.refl _), ok.wh, _, F_some hF, rfl, rfl⟩
theorem Fc_Stands_ok {β : Type} {f : Bool → Option β} {G : β → Prop} {R : D → Heap → Prop} {p0 : LB} {p1 : Int} {p2 : LB} (h : Heap) (hF : OptP ((Fc_Stands p0 p1 p2).bind f) G) (hk : ∀ r, Fc_Stands p0 p1 p2 = some r → OptP (f r) G → R (.bool r) h) : CallsA Tryz.prog 34 [.str p0, .I p1, .str p2] h R := by
 obtain ⟨r0, hr, hF⟩ := F_bind hF
 refine (Fc_Stands_w (G := fun r => r = r0) p0 p1 p2 h ⟨r0, hr, rfl⟩).mono ?_
 rintro _ _ ⟨r, rfl, rfl, rfl⟩
 exact hk _ hr hF
theorem Fc_White_w (p0 : LB) (p1 : Int) {G : Int → Prop} (h : Heap) (hF : OptP (Fc_White p0 p1) G) : CallsA Tryz.prog 35 [.str p0, .I p1] h fun d h' => ∃ r, G r ∧ d = .I r ∧ h' = h := by
 refine CallsA.ret (C_body Tryz.func35 rfl en_35 Tryz.ntmps35 rfl (fun ok => ?_))
 rw [Fc_White] at hF
 refine CR (Ai rfl (Sn ?_))
 refine C_join hF (fun (a19 : Int) s' => OK h [] ∧ WS s' ⟨mkSl 36 [(1, .I a19)], Hp h []⟩) (fun J20 hF => ?_) ?_
 ·refine WP_block ?_
  refine C_loop (σ := Int) hF (fun (a21 : Int) s' => OK h [] ∧ WS s' ⟨mkSl 36 [(0, .str p0), (1, .I a21)], Hp h []⟩) ?_ ?_
  ·exact ⟨ok, WS.mk' (.k (.k .nil)) ok (.refl _)⟩
  ·rintro G22 hG23 rec24 a21 s' ih25 hF ⟨ok, hws⟩
   refine WP_ws hws ?_
   clear hws s'
   rw [Fc_White_l0] at hF
   refine C_seq (CR (Mi rfl (Ms rfl (S_lenS rfl ty_st_9 (S_bin rfl rfl (ev_lss ..) (Mb rfl ?_))))))
   refine S_twoJ 23 32 hF (fun J27 hb26 hF => ?_) (fun J27 hb26 hF => ?_) (fun v28 hF => ?_)
   ·refine Sx rfl rfl hb26 (Ms rfl (Sn (Sx rfl rfl hb26 (Mi rfl (Sn (Sx rfl rfl hb26 (S_ixS rfl rfl ty_st_9 hF (fun x29 _ hF => Sn (Sx rfl rfl hb26 (S_bin rfl rfl (ev_eql ..) (Sn (Sx rfl rfl hb26 (Mb rfl (Sn ?_))))))))))))))
    refine S_twoJ 5 19 hF (fun J31 hb30 hF => ?_) (fun J31 hb30 hF => ?_) (fun v32 hF => ?_)
    ·refine So rfl rfl hb30 (So rfl rfl hb30 (So rfl rfl hb30 (So rfl rfl hb30 (Sx rfl rfl hb26 (S_pickT (v := .bool _) rfl hb30 rfl (Sn (Sn ?_)))))))
     refine ⟨_, hF, .hd (.refl _) ?_⟩
     repeat first | with_reducible exact .refl _ | refine .add ?_ rfl
    ·refine Sx rfl rfl hb30 (Ms rfl (Sn (Sx rfl rfl hb30 (Mi rfl (Sn (Sx rfl rfl hb30 (S_ixS rfl rfl ty_st_9 hF (fun x33 _ hF => Sn (Sx rfl rfl hb30 (S_bin rfl rfl (ev_eql ..) (Sn (Sx rfl rfl hb26 (S_pickF (v := .bool _) rfl hb30 rfl (Sn (Sn ?_)))))))))))))))
     refine ⟨_, hF, .hd (.refl _) ?_⟩
     repeat first | with_reducible exact .refl _ | refine .add ?_ rfl
    ·refine Sx rfl rfl hb26 (Mb rfl (Sn ?_))
     refine S_twoJ 5 25 hF (fun J35 hb34 hF => ?_) (fun J35 hb34 hF => ?_) (fun v36 hF => ?_)
     ·refine So rfl rfl hb34 (So rfl rfl hb34 (So rfl rfl hb34 (So rfl rfl hb34 (Sx rfl rfl hb26 (S_pickT (v := .bool _) rfl hb34 rfl (Sn (Sn ?_)))))))
      refine ⟨_, hF, .hd (.refl _) ?_⟩
      repeat first | with_reducible exact .refl _ | refine .add ?_ rfl
     ·refine Sx rfl rfl hb34 (Ms rfl (Sn (Sx rfl rfl hb34 (Mi rfl (Sn (Sx rfl rfl hb34 (S_ixS rfl rfl ty_st_9 hF (fun x37 _ hF => Sn (Sx rfl rfl hb34 (S_bin rfl rfl (ev_eql ..) (Sn (Sx rfl rfl hb26 (S_pickF (v := .bool _) rfl hb34 rfl (Sn (Sn ?_)))))))))))))))
      refine ⟨_, hF, .hd (.refl _) ?_⟩
      repeat first | with_reducible exact .refl _ | refine .add ?_ rfl
     ·refine Sx rfl rfl hb26 (Mb rfl (Sn ?_))
      refine S_twoJ 5 31 hF (fun J39 hb38 hF => ?_) (fun J39 hb38 hF => ?_) (fun v40 hF => ?_)
      ·refine So rfl rfl hb38 (So rfl rfl hb38 (So rfl rfl hb38 (So rfl rfl hb38 (Sx rfl rfl hb26 (S_pickT (v := .bool _) rfl hb38 rfl (Sn (Sn ?_)))))))
       refine ⟨_, hF, .hd (.refl _) ?_⟩
       repeat first | with_reducible exact .refl _ | refine .add ?_ rfl
      ·refine Sx rfl rfl hb38 (Ms rfl (Sn (Sx rfl rfl hb38 (Mi rfl (Sn (Sx rfl rfl hb38 (S_ixS rfl rfl ty_st_9 hF (fun x41 _ hF => Sn (Sx rfl rfl hb38 (S_bin rfl rfl (ev_eql ..) (Sn (Sx rfl rfl hb26 (S_pickF (v := .bool _) rfl hb38 rfl (Sn (Sn ?_)))))))))))))))
       refine ⟨_, hF, .hd (.refl _) ?_⟩
       repeat first | with_reducible exact .refl _ | refine .add ?_ rfl
      ·refine S_pickT (v := .bool _) rfl hb26 rfl (Sn ?_)
       refine ⟨_, hF, .hd (.refl _) ?_⟩
       repeat first | with_reducible exact .refl _ | refine .add ?_ rfl
   ·refine So rfl rfl hb26 (So rfl rfl hb26 (So rfl rfl hb26 (So rfl rfl hb26 (So rfl rfl hb26 (S_off2 rfl rfl (S_offD (S_off2 rfl rfl (S_offD (S_off2 rfl rfl (S_offD (S_off2 rfl rfl (S_offD (So rfl rfl hb26 (So rfl rfl hb26 (S_off2 rfl rfl (S_offD (S_off2 rfl rfl (S_offD (S_off2 rfl rfl (S_offD (S_off2 rfl rfl (S_offD (So rfl rfl hb26 (So rfl rfl hb26 (S_off2 rfl rfl (S_offD (S_off2 rfl rfl (S_offD (S_off2 rfl rfl (S_offD ?_))))))))))))))))))))))))))))))
    refine S_off2 rfl rfl (S_offD (So rfl rfl hb26 (S_pickF (v := .bool _) rfl hb26 rfl (Sn ?_))))
    refine ⟨_, hF, .hd (.refl _) ?_⟩
    repeat first | with_reducible exact .refl _ | refine .add ?_ rfl
   ·refine Sn ?_
    refine C_if (b := v28) rfl hF (fun hb42 hF => ?_) (fun hb42 hF => ?_)
    ·refine WP_skip (WP_block (C_reg (mdl []) (Mi rfl (S_bin rfl rfl (ev_add ..) (Ai rfl (Sn (ih25 (IntKind.wrap .i64 (a21 + (1 : Int))) _ hF ?_)))))))
     exact ⟨ok, WS.mk' (.k (.k .nil)) ok (.refl _)⟩
    ·refine WP_exit ?_
     simp only [Exit.sel, Exit.blk, Exit.jmp, if_true, if_false, reduceIte, Nat.reduceEqDiff, Nat.succ_ne_zero, Nat.zero_ne_one, Nat.one_ne_zero]
     replace hF := hG23 _ (F_some hF)
     exact ⟨a21, hF, ok, WS.mk' (.k .nil) ok (.refl _)⟩
 ·rintro a19 s' hF ⟨ok, hws⟩
  refine WP_ws hws ?_
  clear hws s'
  refine CR (Mi rfl (Ai rfl (Sn (WP_ret ?_))))
  with_reducible repeat first | apply Exit.sr | apply Exit.br | apply Exit.jr
  refine C_ret (fn := Tryz.f35) rfl (.tmp (v := .I a19) rfl .nil) ?_
  exact ⟨_, _, (.refl _), ok.wh, _, F_some hF, rfl, rfl⟩
theorem Fc_White_ok {β : Type} {f : Int → Option β} {G : β → Prop} {R : D → Heap → Prop} {p0 : LB} {p1 : Int} (h : Heap) (hF : OptP ((Fc_White p0 p1).bind f) G) (hk : ∀ r, Fc_White p0 p1 = some r → OptP (f r) G → R (.I r) h) : CallsA Tryz.prog 35 [.str p0, .I p1] h R := by
 obtain ⟨r0, hr, hF⟩ := F_bind hF
 refine (Fc_White_w (G := fun r => r = r0) p0 p1 h ⟨r0, hr, rfl⟩).mono ?_
 rintro _ _ ⟨r, rfl, rfl, rfl⟩
 exact hk _ hr hF
theorem Fc_Find_w (p0 : LB) (p1 : Int) (p2 : LB) {G : Int → Prop} (h : Heap) (hF : OptP (Fc_Find p0 p1 p2) G) : CallsA Tryz.prog 37 [.str p0, .I p1, .str p2] h fun d h' => ∃ r, G r ∧ d = .I r ∧ h' = h := by
 refine CallsA.ret (C_body Tryz.func37 rfl en_37 Tryz.ntmps37 rfl (fun ok => ?_))
 rw [Fc_Find] at hF
 refine CR (Ai rfl (Sn ?_))
 refine C_join hF (fun (_ : Unit) s' => OK h [] ∧ WS s' ⟨mkSl 26 [], Hp h []⟩) (fun J5 hF => ?_) ?_
 ·refine WP_block ?_
  refine C_loop (σ := Int) hF (fun (a6 : Int) s' => OK h [] ∧ WS s' ⟨mkSl 26 [(0, .str p0), (1, .I a6), (2, .str p2)], Hp h []⟩) ?_ ?_
  ·exact ⟨ok, WS.mk' (.k (.k (.k .nil))) ok (.refl _)⟩
  ·rintro G7 hG8 rec9 a6 s' ih10 hF ⟨ok, hws⟩
   refine WP_ws hws ?_
   clear hws s'
   rw [Fc_Find_l0] at hF
   refine C_seq (CR (Mi rfl (Ms rfl (S_lenS rfl ty_st_9 (S_bin rfl rfl (ev_add ..) (Ms rfl (S_lenS rfl ty_st_9 (S_bin rfl rfl (ev_leq ..) (Sn ?_)))))))))
   refine C_if (b := (decide ((IntKind.wrap .i64 (a6 + (p2.length : Int))) ≤ (p0.length : Int)))) rfl hF (fun hb11 hF => ?_) (fun hb11 hF => ?_)
   ·refine WP_skip (C_seq (WP_block (CR (Ms rfl (Mi rfl (Mi rfl (Ms rfl (S_lenS rfl ty_st_9 (S_bin rfl rfl (ev_add ..) (S_slS rfl ty_st_9 (bd_at rfl) (bd_at rfl) hF (fun x12 _ hF => Ms rfl (S_bin rfl rfl e_seql (Sn ?_)))))))))))))
    refine C_if (b := (x12 == p2)) rfl hF (fun hb13 hF => ?_) (fun hb13 hF => ?_)
    ·refine CR (Mi rfl (Ai rfl (Sn (WP_ret ?_))))
     replace hF := hG8 _ (F_some hF)
     with_reducible repeat first | apply Exit.sr | apply Exit.br | apply Exit.jr
     refine C_ret (fn := Tryz.f37) rfl (.tmp (v := .I a6) rfl .nil) ?_
     exact ⟨_, _, (.refl _), ok.wh, _, F_some hF, rfl, rfl⟩
    ·refine WP_skip (C_reg (mdl []) (Mi rfl (S_bin rfl rfl (ev_add ..) (Ai rfl (Sn (ih10 (IntKind.wrap .i64 (a6 + (1 : Int))) _ hF ?_))))))
     exact ⟨ok, WS.mk' (.k (.k (.k .nil))) ok (.refl _)⟩
   ·refine WP_exit ?_
    simp only [Exit.sel, Exit.blk, Exit.jmp, if_true, if_false, reduceIte, Nat.reduceEqDiff, Nat.succ_ne_zero, Nat.zero_ne_one, Nat.one_ne_zero]
    replace hF := hG8 _ (F_some hF)
    exact ⟨(), hF, ok, WS.mk' .nil ok (.refl _)⟩
 ·rintro ⟨⟩ s' hF ⟨ok, hws⟩
  refine WP_ws hws ?_
  clear hws s'
  refine CR (Ai rfl (Sn (WP_ret ?_)))
  with_reducible repeat first | apply Exit.sr | apply Exit.br | apply Exit.jr
  refine C_ret (fn := Tryz.f37) rfl (.tmp (v := .I (-1 : Int)) rfl .nil) ?_
  exact ⟨_, _, (.refl _), ok.wh, _, F_some hF, rfl, rfl⟩
theorem Fc_Find_ok {β : Type} {f : Int → Option β} {G : β → Prop} {R : D → Heap → Prop} {p0 : LB} {p1 : Int} {p2 : LB} (h : Heap) (hF : OptP ((Fc_Find p0 p1 p2).bind f) G) (hk : ∀ r, Fc_Find p0 p1 p2 = some r → OptP (f r) G → R (.I r) h) : CallsA Tryz.prog 37 [.str p0, .I p1, .str p2] h R := by
 obtain ⟨r0, hr, hF⟩ := F_bind hF
 refine (Fc_Find_w (G := fun r => r = r0) p0 p1 p2 h ⟨r0, hr, rfl⟩).mono ?_
 rintro _ _ ⟨r, rfl, rfl, rfl⟩
 exact hk _ hr hF
theorem Fc_value_w (p0 : LB) (p1 : Int) {G : LB × Int → Prop} (h : Heap) (hF : OptP (Fc_value p0 p1) G) : CallsA Tryz.prog 57 [.str p0, .I p1] h fun d h' => ∃ r, G r ∧ d = .tup [.str r.1, .I r.2] ∧ h' = h := by
 refine CallsA.ret (C_body Tryz.func57 rfl en_57 Tryz.ntmps57 rfl (fun ok => ?_))
 rw [Fc_value] at hF
 refine CR (S_a (v := .str nB) rfl (Ai rfl (Sn (CR (Ms rfl (Mi rfl (S_call (Fc_White_ok _ hF fun x1 _ hF => (Ai rfl (Sn (C_seq (CR (Ms rfl (Mi rfl (S_call (Fc_Stands_ok _ hF fun x2 _ hF => (S_un rfl (ev_not _) (Sn ?_))) (.refl _))))))))) (.refl _))))))))
 refine C_if (b := (!x2)) rfl hF (fun hb3 hF => ?_) (fun hb3 hF => ?_)
 ·refine CR (S_a (v := .str nB) rfl (Ai rfl (Sn (WP_ret ?_))))
  with_reducible repeat first | apply Exit.sr | apply Exit.br | apply Exit.jr
  refine C_ret (fn := Tryz.f57) rfl (.tmp (v := .str nB) rfl (.tmp (v := .I (-1 : Int)) rfl .nil)) ?_
  exact ⟨_, _, (.refl _), ok.wh, _, F_some hF, rfl, rfl⟩
 ·refine WP_skip (CR (Ms rfl (Mi rfl (S_bin rfl rfl (ev_add ..) (S_call (Fc_White_ok _ hF fun x4 _ hF => (Ai rfl (Sn (C_seq (CR (Ms rfl (Mi rfl (S_call (Fc_Stands_ok _ hF fun x5 _ hF => (S_un rfl (ev_not _) (Mb rfl ?_))) (.refl _))))))))) (.refl _))))))
  refine S_twoJ 5 27 hF (fun J7 hb6 hF => ?_) (fun J7 hb6 hF => ?_) (fun v8 hF => ?_)
  ·refine Sx rfl rfl hb6 (Ms rfl (Sn (Sx rfl rfl hb6 (Mi rfl (Sn (Sx rfl rfl hb6 (S_call (Fc_Stands_ok _ hF fun x9 _ hF => (Sn (Sx rfl rfl hb6 (S_un rfl (ev_not _) (Sn (S_pickT (v := .bool _) rfl hb6 rfl (Sn ?_))))))) (.refl _))))))))
   refine ⟨_, hF, .hd (.refl _) ?_⟩
   repeat first | with_reducible exact .refl _ | refine .add ?_ rfl
  ·refine So rfl rfl hb6 (So rfl rfl hb6 (So rfl rfl hb6 (So rfl rfl hb6 (S_pickF (v := .bool _) rfl hb6 rfl (Sn ?_)))))
   refine ⟨_, hF, .hd (.refl _) ?_⟩
   repeat first | with_reducible exact .refl _ | refine .add ?_ rfl
  ·refine Sn ?_
   refine C_if (b := v8) rfl hF (fun hb10 hF => ?_) (fun hb10 hF => ?_)
   ·refine CR (S_a (v := .str nB) rfl (Ai rfl (Sn (WP_ret ?_))))
    with_reducible repeat first | apply Exit.sr | apply Exit.br | apply Exit.jr
    refine C_ret (fn := Tryz.f57) rfl (.tmp (v := .str nB) rfl (.tmp (v := .I (-1 : Int)) rfl .nil)) ?_
    exact ⟨_, _, (.refl _), ok.wh, _, F_some hF, rfl, rfl⟩
   ·refine WP_skip (CR (Ms rfl (Mi rfl (S_bin rfl rfl (ev_add ..) (Ms rfl (Mi rfl (Mi rfl (S_bin rfl rfl (ev_add ..) (S_slS rfl ty_st_9 (bd_at rfl) (bd_at rfl) hF (fun x11 _ hF => S_call (Fc_Find_ok _ hF fun x12 _ hF => (Ai rfl (Sn (C_seq (CR (Mi rfl (S_bin rfl rfl (ev_lss ..) (Sn ?_)))))))) (.refl _)))))))))))
    refine C_if (b := (decide (x12 < (0 : Int)))) rfl hF (fun hb13 hF => ?_) (fun hb13 hF => ?_)
    ·refine CR (S_a (v := .str nB) rfl (Ai rfl (Sn (WP_ret ?_))))
     with_reducible repeat first | apply Exit.sr | apply Exit.br | apply Exit.jr
     refine C_ret (fn := Tryz.f57) rfl (.tmp (v := .str nB) rfl (.tmp (v := .I (-1 : Int)) rfl .nil)) ?_
     exact ⟨_, _, (.refl _), ok.wh, _, F_some hF, rfl, rfl⟩
    ·refine WP_skip (CR (Ms rfl (Mi rfl (S_bin rfl rfl (ev_add ..) (Mi rfl (S_slS rfl ty_st_9 (bd_at rfl) (bd_at rfl) hF (fun x14 _ hF => Mi rfl (S_bin rfl rfl (ev_add ..) (S_a (v := .str _) rfl (Ai rfl (Sn (WP_ret ?_))))))))))))
     with_reducible repeat first | apply Exit.sr | apply Exit.br | apply Exit.jr
     refine C_ret (fn := Tryz.f57) rfl (.tmp (v := .str x14) rfl (.tmp (v := .I (IntKind.wrap .i64 (x12 + (1 : Int)))) rfl .nil)) ?_
     exact ⟨_, _, (.refl _), ok.wh, _, F_some hF, rfl, rfl⟩
theorem Fc_value_ok {β : Type} {f : LB × Int → Option β} {G : β → Prop} {R : D → Heap → Prop} {p0 : LB} {p1 : Int} (h : Heap) (hF : OptP ((Fc_value p0 p1).bind f) G) (hk : ∀ r, Fc_value p0 p1 = some r → OptP (f r) G → R (.tup [.str r.1, .I r.2]) h) : CallsA Tryz.prog 57 [.str p0, .I p1] h R := by
 obtain ⟨r0, hr, hF⟩ := F_bind hF
 refine (Fc_value_w (G := fun r => r = r0) p0 p1 h ⟨r0, hr, rfl⟩).mono ?_
 rintro _ _ ⟨r, rfl, rfl, rfl⟩
 exact hk _ hr hF
theorem Fc_letter_w (p0 : Int) {G : Bool → Prop} (h : Heap) (hF : OptP (Fc_letter p0) G) : CallsA Tryz.prog 84 [.int .u8 p0] h fun d h' => ∃ r, G r ∧ d = .bool r ∧ h' = h := by
 refine CallsA.ret (C_body Tryz.func84 rfl en_84 Tryz.ntmps84 rfl (fun ok => ?_))
 rw [Fc_letter] at hF
 refine CR (Ab rfl (Sn (CR (Mi rfl (S_bin rfl rfl (ev_geq ..) (Mb rfl ?_))))))
 refine S_two (b := (decide ((97 : Int) ≤ p0))) 3 8 (.bool ((decide ((97 : Int) ≤ p0)) && (decide (p0 ≤ (122 : Int))))) (fun hb1 => ?_) (fun hb1 => ?_) ?_
 ·refine Sx rfl rfl hb1 (Mi rfl (Sn (Sx rfl rfl hb1 (S_bin rfl rfl (ev_leq ..) (Sn (S_pickT (v := .bool _) rfl hb1 rfl (Sn (.hd (and_t hb1) ?_))))))))
  repeat first | with_reducible exact .refl _ | refine .add ?_ rfl
 ·refine So rfl rfl hb1 (So rfl rfl hb1 (S_pickF (v := .bool _) rfl hb1 rfl (Sn (.hd (and_f hb1) ?_))))
  repeat first | with_reducible exact .refl _ | refine .add ?_ rfl
 refine Mb rfl ?_
 refine S_two (b := ((decide ((97 : Int) ≤ p0)) && (decide (p0 ≤ (122 : Int))))) 7 16 (.bool (((decide ((97 : Int) ≤ p0)) && (decide (p0 ≤ (122 : Int)))) || ((decide ((65 : Int) ≤ p0)) && (decide (p0 ≤ (90 : Int)))))) (fun hb2 => ?_) (fun hb2 => ?_) ?_
 ·refine So rfl rfl hb2 (So rfl rfl hb2 (So rfl rfl hb2 (S_off2 rfl rfl (S_offD (S_off2 rfl rfl (S_offD (So rfl rfl hb2 (S_pickT (v := .bool _) rfl hb2 rfl (Sn (.hd (or_t hb2) ?_))))))))))
  repeat first | with_reducible exact .refl _ | refine .add ?_ rfl
 ·refine Sx rfl rfl hb2 (Mi rfl (Sn (Sx rfl rfl hb2 (S_bin rfl rfl (ev_geq ..) (Sn (Sx rfl rfl hb2 (Mb rfl (Sn ?_))))))))
  refine S_two (b := (decide ((65 : Int) ≤ p0))) 3 15 (.bool ((decide ((65 : Int) ≤ p0)) && (decide (p0 ≤ (90 : Int))))) (fun hb4 => ?_) (fun hb4 => ?_) ?_
  ·refine Sx rfl rfl hb4 (Mi rfl (Sn (Sx rfl rfl hb4 (S_bin rfl rfl (ev_leq ..) (Sn (Sx rfl rfl hb2 (S_pickT (v := .bool _) rfl hb4 rfl (Sn (Sn (.hd (and_t hb4) ?_))))))))))
   repeat first | with_reducible exact .refl _ | refine .add ?_ rfl
  ·refine So rfl rfl hb4 (So rfl rfl hb4 (Sx rfl rfl hb2 (S_pickF (v := .bool _) rfl hb4 rfl (Sn (Sn (.hd (and_f hb4) ?_))))))
   repeat first | with_reducible exact .refl _ | refine .add ?_ rfl
  refine S_pickF (v := .bool _) rfl hb2 rfl (Sn (.hd (or_f hb2) ?_))
  repeat first | with_reducible exact .refl _ | refine .add ?_ rfl
 refine Ab rfl (Sn (WP_ret ?_))
 with_reducible repeat first | apply Exit.sr | apply Exit.br | apply Exit.jr
 refine C_ret (fn := Tryz.f84) rfl (.tmp (v := .bool (((decide ((97 : Int) ≤ p0)) && (decide (p0 ≤ (122 : Int)))) || ((decide ((65 : Int) ≤ p0)) && (decide (p0 ≤ (90 : Int)))))) rfl .nil) ?_
 exact ⟨_, _, (.refl _), ok.wh, _, F_some hF, rfl, rfl⟩
theorem Fc_letter_ok {β : Type} {f : Bool → Option β} {G : β → Prop} {R : D → Heap → Prop} {p0 : Int} (h : Heap) (hF : OptP ((Fc_letter p0).bind f) G) (hk : ∀ r, Fc_letter p0 = some r → OptP (f r) G → R (.bool r) h) : CallsA Tryz.prog 84 [.int .u8 p0] h R := by
 obtain ⟨r0, hr, hF⟩ := F_bind hF
 refine (Fc_letter_w (G := fun r => r = r0) p0 h ⟨r0, hr, rfl⟩).mono ?_
 rintro _ _ ⟨r, rfl, rfl, rfl⟩
 exact hk _ hr hF
theorem Fc_digit_w (p0 : Int) {G : Bool → Prop} (h : Heap) (hF : OptP (Fc_digit p0) G) : CallsA Tryz.prog 85 [.int .u8 p0] h fun d h' => ∃ r, G r ∧ d = .bool r ∧ h' = h := by
 refine CallsA.ret (C_body Tryz.func85 rfl en_85 Tryz.ntmps85 rfl (fun ok => ?_))
 rw [Fc_digit] at hF
 refine CR (Ab rfl (Sn (CR (Mi rfl (S_bin rfl rfl (ev_geq ..) (Mb rfl ?_))))))
 refine S_two (b := (decide ((48 : Int) ≤ p0))) 3 8 (.bool ((decide ((48 : Int) ≤ p0)) && (decide (p0 ≤ (57 : Int))))) (fun hb1 => ?_) (fun hb1 => ?_) ?_
 ·refine Sx rfl rfl hb1 (Mi rfl (Sn (Sx rfl rfl hb1 (S_bin rfl rfl (ev_leq ..) (Sn (S_pickT (v := .bool _) rfl hb1 rfl (Sn (.hd (and_t hb1) ?_))))))))
  repeat first | with_reducible exact .refl _ | refine .add ?_ rfl
 ·refine So rfl rfl hb1 (So rfl rfl hb1 (S_pickF (v := .bool _) rfl hb1 rfl (Sn (.hd (and_f hb1) ?_))))
  repeat first | with_reducible exact .refl _ | refine .add ?_ rfl
 refine Ab rfl (Sn (WP_ret ?_))
 with_reducible repeat first | apply Exit.sr | apply Exit.br | apply Exit.jr
 refine C_ret (fn := Tryz.f85) rfl (.tmp (v := .bool ((decide ((48 : Int) ≤ p0)) && (decide (p0 ≤ (57 : Int))))) rfl .nil) ?_
 exact ⟨_, _, (.refl _), ok.wh, _, F_some hF, rfl, rfl⟩
theorem Fc_digit_ok {β : Type} {f : Bool → Option β} {G : β → Prop} {R : D → Heap → Prop} {p0 : Int} (h : Heap) (hF : OptP ((Fc_digit p0).bind f) G) (hk : ∀ r, Fc_digit p0 = some r → OptP (f r) G → R (.bool r) h) : CallsA Tryz.prog 85 [.int .u8 p0] h R := by
 obtain ⟨r0, hr, hF⟩ := F_bind hF
 refine (Fc_digit_w (G := fun r => r = r0) p0 h ⟨r0, hr, rfl⟩).mono ?_
 rintro _ _ ⟨r, rfl, rfl, rfl⟩
 exact hk _ hr hF
theorem Fc_allowed_w (p0 : Int) (p1 : LB) {G : Bool → Prop} (h : Heap) (hF : OptP (Fc_allowed p0 p1) G) : CallsA Tryz.prog 58 [.I p0, .str p1] h fun d h' => ∃ r, G r ∧ d = .bool r ∧ h' = h := by
 refine CallsA.ret (C_body Tryz.func58 rfl en_58 Tryz.ntmps58 rfl (fun ok => ?_))
 rw [Fc_allowed] at hF
 refine CR (Ab rfl (Sn (C_seq (CR (Mi rfl (S_bin rfl rfl (ev_eql ..) (Sn ?_)))))))
 refine C_if (b := (p0 == (2 : Int))) rfl hF (fun hb1 hF => ?_) (fun hb1 hF => ?_)
 ·refine CR (Ms rfl (S_bin rfl rfl e_seql (Mb rfl ?_)))
  refine S_two (b := (p1 == ([121, 101, 115] : LB))) 3 14 (.bool ((p1 == ([121, 101, 115] : LB)) || (p1 == ([110, 111] : LB)))) (fun hb2 => ?_) (fun hb2 => ?_) ?_
  ·refine So rfl rfl hb2 (So rfl rfl hb2 (S_pickT (v := .bool _) rfl hb2 rfl (Sn (.hd (or_t hb2) ?_))))
   repeat first | with_reducible exact .refl _ | refine .add ?_ rfl
  ·refine Sx rfl rfl hb2 (Ms rfl (Sn (Sx rfl rfl hb2 (S_bin rfl rfl e_seql (Sn (S_pickF (v := .bool _) rfl hb2 rfl (Sn (.hd (or_f hb2) ?_))))))))
   repeat first | with_reducible exact .refl _ | refine .add ?_ rfl
  refine Ab rfl (Sn (WP_ret ?_))
  with_reducible repeat first | apply Exit.sr | apply Exit.br | apply Exit.jr
  refine C_ret (fn := Tryz.f58) rfl (.tmp (v := .bool ((p1 == ([121, 101, 115] : LB)) || (p1 == ([110, 111] : LB)))) rfl .nil) ?_
  exact ⟨_, _, (.refl _), ok.wh, _, F_some hF, rfl, rfl⟩
 ·refine WP_skip ?_
  refine C_join hF (fun (_ : Unit) s' => OK h [] ∧ WS s' ⟨mkSl 80 [(1, .str p1)], Hp h []⟩) (fun J54 hF => ?_) ?_
  ·refine CR (Mi rfl (S_bin rfl rfl (ev_eql ..) (Sn ?_)))
   refine C_if (b := (p0 == (1 : Int))) rfl hF (fun hb55 hF => ?_) (fun hb55 hF => ?_)
   ·refine C_seq (CR (Ms rfl (S_bin rfl rfl e_seql (Mb rfl ?_))))
    refine S_twoJ 5 24 hF (fun J57 hb56 hF => ?_) (fun J57 hb56 hF => ?_) (fun v58 hF => ?_)
    ·refine So rfl rfl hb56 (So rfl rfl hb56 (So rfl rfl hb56 (So rfl rfl hb56 (S_pickT (v := .bool _) rfl hb56 rfl (Sn ?_)))))
     refine ⟨_, hF, .hd (.refl _) ?_⟩
     repeat first | with_reducible exact .refl _ | refine .add ?_ rfl
    ·refine Sx rfl rfl hb56 (Ms rfl (Sn (Sx rfl rfl hb56 (S_ixS rfl rfl ty_st_9 hF (fun x59 _ hF => Sn (Sx rfl rfl hb56 (S_call (Fc_letter_ok _ hF fun x60 _ hF => (Sn (Sx rfl rfl hb56 (S_un rfl (ev_not _) (Sn (S_pickF (v := .bool _) rfl hb56 rfl (Sn ?_))))))) (.refl _))))))))
     refine ⟨_, hF, .hd (.refl _) ?_⟩
     repeat first | with_reducible exact .refl _ | refine .add ?_ rfl
    ·refine Sn ?_
     refine C_if (b := v58) rfl hF (fun hb61 hF => ?_) (fun hb61 hF => ?_)
     ·refine CR (Ab rfl (Sn (WP_ret ?_)))
      with_reducible repeat first | apply Exit.sr | apply Exit.br | apply Exit.jr
      refine C_ret (fn := Tryz.f58) rfl (.tmp (v := .bool false) rfl .nil) ?_
      exact ⟨_, _, (.refl _), ok.wh, _, F_some hF, rfl, rfl⟩
     ·refine WP_skip ?_
      refine C_join hF (fun (_ : Unit) s' => OK h [] ∧ WS s' ⟨mkSl 80 [], Hp h []⟩) (fun J84 hF => ?_) ?_
      ·refine CR (Ai rfl (Sn (WP_block ?_)))
       refine C_loop (σ := Int) hF (fun (a85 : Int) s' => OK h [] ∧ WS s' ⟨mkSl 80 [(1, .str p1), (5, .I a85)], Hp h []⟩) ?_ ?_
       ·exact ⟨ok, WS.mk' (.k (.k .nil)) ok (.refl _)⟩
       ·rintro G86 hG87 rec88 a85 s' ih89 hF ⟨ok, hws⟩
        refine WP_ws hws ?_
        clear hws s'
        rw [Fc_allowed_l0] at hF
        refine C_seq (CR (Mi rfl (Ms rfl (S_lenS rfl ty_st_9 (S_bin rfl rfl (ev_lss ..) (Sn ?_))))))
        refine C_if (b := (decide (a85 < (p1.length : Int)))) rfl hF (fun hb90 hF => ?_) (fun hb90 hF => ?_)
        ·refine WP_skip (C_seq (WP_block (CR (Ms rfl (Mi rfl (S_ixS rfl rfl ty_st_9 hF (fun x91 _ hF => S_call (Fc_letter_ok _ hF fun x92 _ hF => (S_un rfl (ev_not _) (Mb rfl ?_))) (.refl _))))))))
         refine S_twoJ 6 42 hF (fun J94 hb93 hF => ?_) (fun J94 hb93 hF => ?_) (fun v95 hF => ?_)
         ·refine Sx rfl rfl hb93 (Ms rfl (Sn (Sx rfl rfl hb93 (Mi rfl (Sn (Sx rfl rfl hb93 (S_ixS rfl rfl ty_st_9 hF (fun x96 _ hF => Sn (Sx rfl rfl hb93 (S_call (Fc_digit_ok _ hF fun x97 _ hF => (Sn (Sx rfl rfl hb93 (S_un rfl (ev_not _) (Sn (S_pickT (v := .bool _) rfl hb93 rfl (Sn ?_))))))) (.refl _)))))))))))
          refine ⟨_, hF, .hd (.refl _) ?_⟩
          repeat first | with_reducible exact .refl _ | refine .add ?_ rfl
         ·refine So rfl rfl hb93 (So rfl rfl hb93 (So rfl rfl hb93 (So rfl rfl hb93 (So rfl rfl hb93 (S_pickF (v := .bool _) rfl hb93 rfl (Sn ?_))))))
          refine ⟨_, hF, .hd (.refl _) ?_⟩
          repeat first | with_reducible exact .refl _ | refine .add ?_ rfl
         ·refine Mb rfl ?_
          refine S_twoJ 5 48 hF (fun J99 hb98 hF => ?_) (fun J99 hb98 hF => ?_) (fun v100 hF => ?_)
          ·refine Sx rfl rfl hb98 (Ms rfl (Sn (Sx rfl rfl hb98 (Mi rfl (Sn (Sx rfl rfl hb98 (S_ixS rfl rfl ty_st_9 hF (fun x101 _ hF => Sn (Sx rfl rfl hb98 (S_bin rfl rfl (ev_neq ..) (Sn (S_pickT (v := .bool _) rfl hb98 rfl (Sn ?_)))))))))))))
           refine ⟨_, hF, .hd (.refl _) ?_⟩
           repeat first | with_reducible exact .refl _ | refine .add ?_ rfl
          ·refine So rfl rfl hb98 (So rfl rfl hb98 (So rfl rfl hb98 (So rfl rfl hb98 (S_pickF (v := .bool _) rfl hb98 rfl (Sn ?_)))))
           refine ⟨_, hF, .hd (.refl _) ?_⟩
           repeat first | with_reducible exact .refl _ | refine .add ?_ rfl
          ·refine Mb rfl ?_
           refine S_twoJ 5 54 hF (fun J103 hb102 hF => ?_) (fun J103 hb102 hF => ?_) (fun v104 hF => ?_)
           ·refine Sx rfl rfl hb102 (Ms rfl (Sn (Sx rfl rfl hb102 (Mi rfl (Sn (Sx rfl rfl hb102 (S_ixS rfl rfl ty_st_9 hF (fun x105 _ hF => Sn (Sx rfl rfl hb102 (S_bin rfl rfl (ev_neq ..) (Sn (S_pickT (v := .bool _) rfl hb102 rfl (Sn ?_)))))))))))))
            refine ⟨_, hF, .hd (.refl _) ?_⟩
            repeat first | with_reducible exact .refl _ | refine .add ?_ rfl
           ·refine So rfl rfl hb102 (So rfl rfl hb102 (So rfl rfl hb102 (So rfl rfl hb102 (S_pickF (v := .bool _) rfl hb102 rfl (Sn ?_)))))
            refine ⟨_, hF, .hd (.refl _) ?_⟩
            repeat first | with_reducible exact .refl _ | refine .add ?_ rfl
           ·refine Mb rfl ?_
            refine S_twoJ 5 60 hF (fun J107 hb106 hF => ?_) (fun J107 hb106 hF => ?_) (fun v108 hF => ?_)
            ·refine Sx rfl rfl hb106 (Ms rfl (Sn (Sx rfl rfl hb106 (Mi rfl (Sn (Sx rfl rfl hb106 (S_ixS rfl rfl ty_st_9 hF (fun x109 _ hF => Sn (Sx rfl rfl hb106 (S_bin rfl rfl (ev_neq ..) (Sn (S_pickT (v := .bool _) rfl hb106 rfl (Sn ?_)))))))))))))
             refine ⟨_, hF, .hd (.refl _) ?_⟩
             repeat first | with_reducible exact .refl _ | refine .add ?_ rfl
            ·refine So rfl rfl hb106 (So rfl rfl hb106 (So rfl rfl hb106 (So rfl rfl hb106 (S_pickF (v := .bool _) rfl hb106 rfl (Sn ?_)))))
             refine ⟨_, hF, .hd (.refl _) ?_⟩
             repeat first | with_reducible exact .refl _ | refine .add ?_ rfl
            ·refine Sn ?_
             refine C_if (b := v108) rfl hF (fun hb110 hF => ?_) (fun hb110 hF => ?_)
             ·refine CR (Ab rfl (Sn (WP_ret ?_)))
              replace hF := hG87 _ (F_some hF)
              with_reducible repeat first | apply Exit.sr | apply Exit.br | apply Exit.jr
              refine C_ret (fn := Tryz.f58) rfl (.tmp (v := .bool false) rfl .nil) ?_
              exact ⟨_, _, (.refl _), ok.wh, _, F_some hF, rfl, rfl⟩
             ·refine WP_skip (C_reg (mdl []) (Mi rfl (S_bin rfl rfl (ev_add ..) (Ai rfl (Sn (ih89 (IntKind.wrap .i64 (a85 + (1 : Int))) _ hF ?_))))))
              exact ⟨ok, WS.mk' (.k (.k .nil)) ok (.refl _)⟩
        ·refine WP_exit ?_
         simp only [Exit.sel, Exit.blk, Exit.jmp, if_true, if_false, reduceIte, Nat.reduceEqDiff, Nat.succ_ne_zero, Nat.zero_ne_one, Nat.one_ne_zero]
         replace hF := hG87 _ (F_some hF)
         exact ⟨(), hF, ok, WS.mk' .nil ok (.refl _)⟩
      ·rintro ⟨⟩ s' hF ⟨ok, hws⟩
       refine WP_ws hws ?_
       clear hws s'
       refine CR (Ab rfl (Sn (WP_ret ?_)))
       with_reducible repeat first | apply Exit.sr | apply Exit.br | apply Exit.jr
       refine C_ret (fn := Tryz.f58) rfl (.tmp (v := .bool true) rfl .nil) ?_
       exact ⟨_, _, (.refl _), ok.wh, _, F_some hF, rfl, rfl⟩
   ·refine WP_skip ?_
    exact ⟨(), hF, ok, WS.mk' (.k .nil) ok (.refl _)⟩
  ·rintro ⟨⟩ s' hF ⟨ok, hws⟩
   refine WP_ws hws ?_
   clear hws s'
   refine C_seq (CR (Ms rfl (S_lenS rfl ty_st_9 (S_bin rfl rfl (ev_lss ..) (Mb rfl ?_)))))
   refine S_twoJ 4 68 hF (fun J112 hb111 hF => ?_) (fun J112 hb111 hF => ?_) (fun v113 hF => ?_)
   ·refine So rfl rfl hb111 (So rfl rfl hb111 (So rfl rfl hb111 (S_pickT (v := .bool _) rfl hb111 rfl (Sn ?_))))
    refine ⟨_, hF, .hd (.refl _) ?_⟩
    repeat first | with_reducible exact .refl _ | refine .add ?_ rfl
   ·refine Sx rfl rfl hb111 (Ms rfl (Sn (Sx rfl rfl hb111 (S_slS rfl ty_st_9 bd_no (bd_at rfl) hF (fun x114 _ hF => Sn (Sx rfl rfl hb111 (S_bin rfl rfl e_sneq (Sn (S_pickF (v := .bool _) rfl hb111 rfl (Sn ?_))))))))))
    refine ⟨_, hF, .hd (.refl _) ?_⟩
    repeat first | with_reducible exact .refl _ | refine .add ?_ rfl
   ·refine Sn ?_
    refine C_if (b := v113) rfl hF (fun hb115 hF => ?_) (fun hb115 hF => ?_)
    ·refine CR (Ab rfl (Sn (WP_ret ?_)))
     with_reducible repeat first | apply Exit.sr | apply Exit.br | apply Exit.jr
     refine C_ret (fn := Tryz.f58) rfl (.tmp (v := .bool false) rfl .nil) ?_
     exact ⟨_, _, (.refl _), ok.wh, _, F_some hF, rfl, rfl⟩
    ·refine WP_skip ?_
     refine C_join hF (fun (_ : Unit) s' => OK h [] ∧ WS s' ⟨mkSl 80 [], Hp h []⟩) (fun J121 hF => ?_) ?_
     ·refine CR (Ai rfl (Sn (WP_block ?_)))
      refine C_loop (σ := Int) hF (fun (a122 : Int) s' => OK h [] ∧ WS s' ⟨mkSl 80 [(1, .str p1), (6, .I a122)], Hp h []⟩) ?_ ?_
      ·exact ⟨ok, WS.mk' (.k (.k .nil)) ok (.refl _)⟩
      ·rintro G123 hG124 rec125 a122 s' ih126 hF ⟨ok, hws⟩
       refine WP_ws hws ?_
       clear hws s'
       rw [Fc_allowed_l1] at hF
       refine C_seq (CR (Mi rfl (Ms rfl (S_lenS rfl ty_st_9 (S_bin rfl rfl (ev_lss ..) (Sn ?_))))))
       refine C_if (b := (decide (a122 < (p1.length : Int)))) rfl hF (fun hb127 hF => ?_) (fun hb127 hF => ?_)
       ·refine WP_skip (C_seq (WP_block (CR (Ms rfl (Mi rfl (S_ixS rfl rfl ty_st_9 hF (fun x128 _ hF => S_call (Fc_digit_ok _ hF fun x129 _ hF => (S_un rfl (ev_not _) (Sn ?_))) (.refl _))))))))
        refine C_if (b := (!x129)) rfl hF (fun hb130 hF => ?_) (fun hb130 hF => ?_)
        ·refine CR (Ab rfl (Sn (WP_ret ?_)))
         replace hF := hG124 _ (F_some hF)
         with_reducible repeat first | apply Exit.sr | apply Exit.br | apply Exit.jr
         refine C_ret (fn := Tryz.f58) rfl (.tmp (v := .bool false) rfl .nil) ?_
         exact ⟨_, _, (.refl _), ok.wh, _, F_some hF, rfl, rfl⟩
        ·refine WP_skip (C_reg (mdl []) (Mi rfl (S_bin rfl rfl (ev_add ..) (Ai rfl (Sn (ih126 (IntKind.wrap .i64 (a122 + (1 : Int))) _ hF ?_))))))
         exact ⟨ok, WS.mk' (.k (.k .nil)) ok (.refl _)⟩
       ·refine WP_exit ?_
        simp only [Exit.sel, Exit.blk, Exit.jmp, if_true, if_false, reduceIte, Nat.reduceEqDiff, Nat.succ_ne_zero, Nat.zero_ne_one, Nat.one_ne_zero]
        replace hF := hG124 _ (F_some hF)
        exact ⟨(), hF, ok, WS.mk' .nil ok (.refl _)⟩
     ·rintro ⟨⟩ s' hF ⟨ok, hws⟩
      refine WP_ws hws ?_
      clear hws s'
      refine CR (Ab rfl (Sn (WP_ret ?_)))
      with_reducible repeat first | apply Exit.sr | apply Exit.br | apply Exit.jr
      refine C_ret (fn := Tryz.f58) rfl (.tmp (v := .bool true) rfl .nil) ?_
      exact ⟨_, _, (.refl _), ok.wh, _, F_some hF, rfl, rfl⟩
theorem Fc_allowed_ok {β : Type} {f : Bool → Option β} {G : β → Prop} {R : D → Heap → Prop} {p0 : Int} {p1 : LB} (h : Heap) (hF : OptP ((Fc_allowed p0 p1).bind f) G) (hk : ∀ r, Fc_allowed p0 p1 = some r → OptP (f r) G → R (.bool r) h) : CallsA Tryz.prog 58 [.I p0, .str p1] h R := by
 obtain ⟨r0, hr, hF⟩ := F_bind hF
 refine (Fc_allowed_w (G := fun r => r = r0) p0 p1 h ⟨r0, hr, rfl⟩).mono ?_
 rintro _ _ ⟨r, rfl, rfl, rfl⟩
 exact hk _ hr hF
theorem Fc_small_w (p0 : LB) {G : LB → Prop} (h : Heap) (hF : OptP (Fc_small p0) G) : CallsA Tryz.prog 59 [.str p0] h fun d h' => ∃ r, G r ∧ d = .str r ∧ h' = h := by
 refine CallsA.ret (C_body Tryz.func59 rfl en_59 Tryz.ntmps59 rfl (fun ok => ?_))
 rw [Fc_small] at hF
 refine CR (S_a (v := .str nB) rfl (Sn (C_seq (C_reg (mdl [(6, 1)]) (Ms rfl (S_bytM ok rfl rfl ty_sl_22 ty_st_9 ty_ki_5 ?_))))))
 intro u1 zu1 ok
 refine S_a (v := mslO _ _ _) rfl (Sn ?_)
 refine C_join hF (fun (a29 : LB) s' => ∃ g28 : Nat, (g28 = 0 → a29 = []) ∧ OK h [moY g28 c_u8 a29] ∧ WS s' ⟨mkSl 35 [(3, mslO 1 g28 a29)], Hp h [moY g28 c_u8 a29]⟩) (fun J30 hF => ?_) ?_
 ·refine CR (Ai rfl (Sn (WP_block ?_)))
  refine C_loop (σ := LB × Int) hF (fun (v : LB × Int) s' => match v with | (a32, a33) => ∃ g31 : Nat, (g31 = 0 → a32 = []) ∧ OK h [moY g31 c_u8 a32] ∧ WS s' ⟨mkSl 35 [(3, mslO 1 g31 a32), (4, .I a33)], Hp h [moY g31 c_u8 a32]⟩) ?_ ?_
  ·exact ⟨u1, zu1, ok, WS.mk' (.k (.k .nil)) ok (.refl _)⟩
  ·rintro G34 hG35 rec36 ⟨a32, a33⟩ s' ih37 hF ⟨g31, zg31, ok, hws⟩
   refine WP_ws hws ?_
   clear hws s'
   rw [Fc_small_l0] at hF
   refine C_seq (CR (Mi rfl (S_m (v := mslO _ _ _) rfl (S_lenO zg31 rfl ty_sl_22 (S_bin rfl rfl (ev_lss ..) (Sn ?_))))))
   refine C_if (b := (decide (a33 < (a32.length : Int)))) rfl hF (fun hb38 hF => ?_) (fun hb38 hF => ?_)
   ·refine WP_skip ?_
    refine C_join hF (fun (a50 : LB) s' => ∃ g49 : Nat, (g49 = 0 → a50 = []) ∧ OK h [moY g49 c_u8 a50] ∧ WS s' ⟨mkSl 35 [(3, mslO 1 g49 a50), (4, .I a33)], Hp h [moY g49 c_u8 a50]⟩) (fun J51 hF => ?_) ?_
    ·refine WP_block (CR (S_m (v := mslO _ _ _) rfl (Mi rfl (S_ixO zg31 rfl rfl ty_sl_22 ty_sz_5 hF (fun x52 hx52 hF => S_ldYO (q := 1) (j := 0) (f0 := 0) ok rfl zg31 rfl rfl (fun _ => rfl) hx52 rfl rfl (p_one ty_ag_5 ty_sz_5 rfl) (S_bin rfl rfl (ev_geq ..) (Mb rfl ?_)))))))
     refine S_twoJ 6 24 hF (fun J54 hb53 hF => ?_) (fun J54 hb53 hF => ?_) (fun v55 hF => ?_)
     ·refine Sx rfl rfl hb53 (S_m (v := mslO _ _ _) rfl (Sn (Sx rfl rfl hb53 (Mi rfl (Sn (Sx rfl rfl hb53 (S_ixO zg31 rfl rfl ty_sl_22 ty_sz_5 hF (fun x56 hx56 hF => Sn (Sx rfl rfl hb53 (S_ldYO (q := 1) (j := 0) (f0 := 0) ok rfl zg31 rfl rfl (fun _ => rfl) hx56 rfl rfl (p_one ty_ag_5 ty_sz_5 rfl) (Sn (Sx rfl rfl hb53 (S_bin rfl rfl (ev_leq ..) (Sn (S_pickT (v := .bool _) rfl hb53 rfl (Sn ?_))))))))))))))))
      refine ⟨_, hF, .hd (.refl _) ?_⟩
      repeat first | with_reducible exact .refl _ | refine .add ?_ rfl
     ·refine So rfl rfl hb53 (So rfl rfl hb53 (So rfl rfl hb53 (So rfl rfl hb53 (So rfl rfl hb53 (S_pickF (v := .bool _) rfl hb53 rfl (Sn ?_))))))
      refine ⟨_, hF, .hd (.refl _) ?_⟩
      repeat first | with_reducible exact .refl _ | refine .add ?_ rfl
     ·refine Sn ?_
      refine C_if (b := v55) rfl hF (fun hb57 hF => ?_) (fun hb57 hF => ?_)
      ·refine C_reg (mdl []) (S_m (v := mslO _ _ _) rfl (Mi rfl (S_m (v := mslO _ _ _) rfl (Mi rfl (S_ixO zg31 rfl rfl ty_sl_22 ty_sz_5 hF (fun x58 hx58 hF => S_ldYO (q := 1) (j := 0) (f0 := 0) ok rfl zg31 rfl rfl (fun _ => rfl) hx58 rfl rfl (p_one ty_ag_5 ty_sz_5 rfl) (S_bin rfl rfl (ev_add ..) (S_ixO zg31 rfl rfl ty_sl_22 ty_sz_5 hF (fun x59 hx59 hF => ?_)))))))))
       obtain ⟨b60, hb60, hF⟩ := F_bind hF
       replace hb60 := u8_spec hb60
       refine S_stYO (q := 1) (j := 0) (f0 := 0) (b := b60) ok zg31 rfl rfl rfl (fun _ => rfl) hx59 rfl rfl ty_sz_5 rfl (by simp only [c_u8, hb60]; rfl) (fun za61 ok => ?_)
       obtain ⟨a61, ha61, hF⟩ := F_let hF
       rw [← ha61] at ok za61
       rw [← ha61]
       have hms : mslO 1 g31 a32 = mslO 1 g31 a61 := mslO_len (by rw [ha61, List.length_set])
       try rw [hms] at ok
       try rw [hms]
       clear hms
       refine Sn ?_
       exact ⟨a61, hF, g31, za61, ok, WS.mk' (.k (.k .nil)) ok (.refl _)⟩
      ·refine WP_skip ?_
       exact ⟨a32, hF, g31, zg31, ok, WS.mk' (.k (.k .nil)) ok (.refl _)⟩
    ·rintro a50 s' hF ⟨g49, zg49, ok, hws⟩
     refine WP_ws hws ?_
     clear hws s'
     refine C_reg (mdl []) (Mi rfl (S_bin rfl rfl (ev_add ..) (Ai rfl (Sn (ih37 (a50, (IntKind.wrap .i64 (a33 + (1 : Int)))) _ hF ?_)))))
     exact ⟨g49, zg49, ok, WS.mk' (.k (.k .nil)) ok (.refl _)⟩
   ·refine WP_exit ?_
    simp only [Exit.sel, Exit.blk, Exit.jmp, if_true, if_false, reduceIte, Nat.reduceEqDiff, Nat.succ_ne_zero, Nat.zero_ne_one, Nat.one_ne_zero]
    replace hF := hG35 _ (F_some hF)
    exact ⟨a32, hF, g31, zg31, ok, WS.mk' (.k .nil) ok (.refl _)⟩
 ·rintro a29 s' hF ⟨g28, zg28, ok, hws⟩
  refine WP_ws hws ?_
  clear hws s'
  refine CR (S_m (v := mslO _ _ _) rfl (S_cvY (j := 0) ok zg28 rfl rfl ty_sl_22 ty_ki_5 ty_st_9 (slD_of_st ty_st_9) (S_a (v := .str _) rfl (Sn (WP_ret ?_)))))
  with_reducible repeat first | apply Exit.sr | apply Exit.br | apply Exit.jr
  refine C_ret (fn := Tryz.f59) rfl (.tmp (v := .str a29) rfl .nil) ?_
  exact ⟨_, _, (.refl _), ok.wh, _, F_some hF, rfl, rfl⟩
theorem Fc_small_ok {β : Type} {f : LB → Option β} {G : β → Prop} {R : D → Heap → Prop} {p0 : LB} (h : Heap) (hF : OptP ((Fc_small p0).bind f) G) (hk : ∀ r, Fc_small p0 = some r → OptP (f r) G → R (.str r) h) : CallsA Tryz.prog 59 [.str p0] h R := by
 obtain ⟨r0, hr, hF⟩ := F_bind hF
 refine (Fc_small_w (G := fun r => r = r0) p0 h ⟨r0, hr, rfl⟩).mono ?_
 rintro _ _ ⟨r, rfl, rfl, rfl⟩
 exact hk _ hr hF
theorem Fc_declaration_w (p0 : LB) {G : TR × Int × Int → Prop} (h : Heap) (hF : OptP (Fc_declaration p0) G) : CallsA Tryz.prog 36 [.str p0] h fun d h' => ∃ r, G r ∧ d = .tup [.agg (cTR r.1), .I r.2.1, .I r.2.2] ∧ h' = h := by
 refine CallsA.ret (C_body Tryz.func36 rfl en_36 Tryz.ntmps36 rfl (fun ok => ?_))
 rw [Fc_declaration] at hF
 refine C_seq (C_reg (mdl [(2, 1)]) (S_all1 ok rfl ty_zc_37 ?_))
 intro i1 hi1 ok
 refine Ai rfl (Ai rfl (Sn (C_seq (C_reg (mdl [(5, 1)]) (S_bld (v := .agg [.I 1, .I 0, .str nB, .snil, .str nB, .I 0]) (b_st ty_zc_37 ty_pl_37 rfl) (S_all1 ok rfl ty_zc_37 ?_))))))
 intro i2 hi2 ok
 refine S_st (j := 0) (cs' := [.I 1, .I 0, .str nB, .snil, .str nB, .I 0]) ok rfl rfl rfl hi2 rfl ty_sz_37 rfl rfl (fun ok => S_ghostO 0 3 2 (fun r3 => [.I 1, .I 0, .str nB, .sl 2 (List.map cP nP) r3, .str nB, .I 0]) ok rfl hi2 rfl (fun _ => rfl) ?_)
 intro r3 hr3 ok
 refine Sn (CR (Ai rfl (Sn (CR (Ab rfl (Sn ?_))))))
 refine C_join hF (fun (v : Int × Int × LB × (List TP) × LB × Int × Int × Int × LB × (List TP) × LB × Int × Int × Bool) s' => match v with | (a69, a70, a71, a72, a73, a74, a75, a76, a77, a78, a80, a81, a82, a83) => ∃ g79 : Nat, g79 ≠ 0 ∧ OK h [(g79, .room), (i2, .cells [.I a75, .I a76, .str a77, .sl 2 (List.map cP a78) g79, .str a80, .I a81]), (i1, .cells [.I a69, .I a70, .str a71, .sl 2 (List.map cP a72) 0, .str a73, .I a74])] ∧ WS s' ⟨mkSl 86 [(0, .str p0), (2, .ptr i1 0), (5, .ptr i2 0), (6, .I a82), (7, .bool a83)], Hp h [(g79, .room), (i2, .cells [.I a75, .I a76, .str a77, .sl 2 (List.map cP a78) g79, .str a80, .I a81]), (i1, .cells [.I a69, .I a70, .str a71, .sl 2 (List.map cP a72) 0, .str a73, .I a74])]⟩) (fun J84 hF => ?_) ?_
 ·refine CR (Ai rfl (Sn (WP_block ?_)))
  refine C_loop (σ := Int × Int × LB × (List TP) × LB × Int × Int × Int × LB × (List TP) × LB × Int × Int × Bool × Int) hF (fun (v : Int × Int × LB × (List TP) × LB × Int × Int × Int × LB × (List TP) × LB × Int × Int × Bool × Int) s' => match v with | (a85, a86, a87, a88, a89, a90, a91, a92, a93, a94, a96, a97, a98, a99, a100) => ∃ g95 : Nat, g95 ≠ 0 ∧ OK h [(g95, .room), (i2, .cells [.I a91, .I a92, .str a93, .sl 2 (List.map cP a94) g95, .str a96, .I a97]), (i1, .cells [.I a85, .I a86, .str a87, .sl 2 (List.map cP a88) 0, .str a89, .I a90])] ∧ WS s' ⟨mkSl 86 [(0, .str p0), (2, .ptr i1 0), (5, .ptr i2 0), (6, .I a98), (7, .bool a99), (8, .I a100)], Hp h [(g95, .room), (i2, .cells [.I a91, .I a92, .str a93, .sl 2 (List.map cP a94) g95, .str a96, .I a97]), (i1, .cells [.I a85, .I a86, .str a87, .sl 2 (List.map cP a88) 0, .str a89, .I a90])]⟩) ?_ ?_
  ·have hwo : WO [(r3, .room), (i2, .cells [.I 1, .I 0, .str nB, .sl 2 (List.map cP nP) r3, .str nB, .I 0]), (i1, .cells [.I 0, .I 0, .str nB, .snil, .str nB, .I 0])] [(r3, .room), (i2, .cells [.I 1, .I 0, .str nB, .sl 2 (List.map cP nP) r3, .str nB, .I 0]), (i1, .cells [.I 0, .I 0, .str nB, .sl 2 (List.map cP nP) 0, .str nB, .I 0])] := (.keep (.keep (.weak (.cons (.refl _) (.cons (.refl _) (.cons (.refl _) (.cons (.nil _) (.refl _))))) .nil)))
   exact ⟨r3, hr3, (hwo.spec ok).1, WS.mk' (.k (.k (.k (.k (.k (.k .nil)))))) ok hwo⟩
  ·rintro G101 hG102 rec103 ⟨a85, a86, a87, a88, a89, a90, a91, a92, a93, a94, a96, a97, a98, a99, a100⟩ s' ih104 hF ⟨g95, hg95, ok, hws⟩
   refine WP_ws hws ?_
   clear hws s'
   rw [Fc_declaration_l0] at hF
   refine C_seq (CR (Mi rfl (S_bin rfl rfl (ev_lss ..) (Sn ?_))))
   refine C_if (b := (decide (a100 < (3 : Int)))) rfl hF (fun hb105 hF => ?_) (fun hb105 hF => ?_)
   ·refine WP_skip ?_
    refine C_join hF (fun (v : (List TP) × Int × Bool) s' => match v with | (a128, a130, a131) => ∃ g129 : Nat, g129 ≠ 0 ∧ OK h [(g129, .room), (i2, .cells [.I a91, .I a92, .str a93, .sl 2 (List.map cP a128) g129, .str a96, .I a97]), (i1, .cells [.I a85, .I a86, .str a87, .sl 2 (List.map cP a88) 0, .str a89, .I a90])] ∧ WS s' ⟨mkSl 86 [(0, .str p0), (2, .ptr i1 0), (5, .ptr i2 0), (6, .I a130), (7, .bool a131), (8, .I a100)], Hp h [(g129, .room), (i2, .cells [.I a91, .I a92, .str a93, .sl 2 (List.map cP a128) g129, .str a96, .I a97]), (i1, .cells [.I a85, .I a86, .str a87, .sl 2 (List.map cP a88) 0, .str a89, .I a90])]⟩) (fun J132 hF => ?_) ?_
    ·refine WP_block (CR (S_bld (v := .agg (List.map D.str ([([118, 101, 114, 115, 105, 111, 110] : LB), ([101, 110, 99, 111, 100, 105, 110, 103] : LB), ([115, 116, 97, 110, 100, 97, 108, 111, 110, 101] : LB)] : List LB))) (b_arr ty_zc_88 ty_pl_88 ty_ar_88 ty_sz_9 rfl) (Mi rfl (S_ixN (g := D.str) rfl rfl ty_ar_88 ty_sz_9 ty_ag_9 hF (fun x133 _ hF => S_a (v := .str _) rfl (Sn (CR (Ms rfl (Mi rfl (S_call (Fc_White_ok _ hF fun x134 _ hF => (Ai rfl (Sn (CR (Mi rfl (Mi rfl (S_bin rfl rfl (ev_gtr ..) (Mb rfl ?_)))))))) (.refl _)))))))))))
     refine S_twoJ 5 32 hF (fun J136 hb135 hF => ?_) (fun J136 hb135 hF => ?_) (fun v137 hF => ?_)
     ·refine Sx rfl rfl hb135 (Ms rfl (Sn (Sx rfl rfl hb135 (Mi rfl (Sn (Sx rfl rfl hb135 (Ms rfl (Sn (Sx rfl rfl hb135 (S_call (Fc_Stands_ok _ hF fun x138 _ hF => (Sn (S_pickT (v := .bool _) rfl hb135 rfl (Sn ?_)))) (.refl _)))))))))))
      refine ⟨_, hF, .hd (.refl _) ?_⟩
      repeat first | with_reducible exact .refl _ | refine .add ?_ rfl
     ·refine So rfl rfl hb135 (So rfl rfl hb135 (So rfl rfl hb135 (So rfl rfl hb135 (S_pickF (v := .bool _) rfl hb135 rfl (Sn ?_)))))
      refine ⟨_, hF, .hd (.refl _) ?_⟩
      repeat first | with_reducible exact .refl _ | refine .add ?_ rfl
     ·refine Sn ?_
      refine C_if (b := v137) rfl hF (fun hb139 hF => ?_) (fun hb139 hF => ?_)
      ·refine CR (Ms rfl (Mi rfl (Ms rfl (S_lenS rfl ty_st_9 (S_bin rfl rfl (ev_add ..) (S_call (Fc_value_ok _ hF fun x140 _ hF => (S_m (v := .tup _) rfl (S_ext rfl rfl (S_ext rfl rfl (S_a (v := .str _) rfl (Ai rfl (Sn (C_seq (CR (Mi rfl (S_bin rfl rfl (ev_lss ..) (Mb rfl ?_)))))))))))) (.refl _)))))))
       refine S_twoJ 5 49 hF (fun J142 hb141 hF => ?_) (fun J142 hb141 hF => ?_) (fun v143 hF => ?_)
       ·refine So rfl rfl hb141 (So rfl rfl hb141 (So rfl rfl hb141 (So rfl rfl hb141 (S_pickT (v := .bool _) rfl hb141 rfl (Sn ?_)))))
        refine ⟨_, hF, .hd (.refl _) ?_⟩
        repeat first | with_reducible exact .refl _ | refine .add ?_ rfl
       ·refine Sx rfl rfl hb141 (Mi rfl (Sn (Sx rfl rfl hb141 (Ms rfl (Sn (Sx rfl rfl hb141 (S_call (Fc_allowed_ok _ hF fun x144 _ hF => (Sn (Sx rfl rfl hb141 (S_un rfl (ev_not _) (Sn (S_pickF (v := .bool _) rfl hb141 rfl (Sn ?_))))))) (.refl _))))))))
        refine ⟨_, hF, .hd (.refl _) ?_⟩
        repeat first | with_reducible exact .refl _ | refine .add ?_ rfl
       ·refine Sn ?_
        refine C_if (b := v143) rfl hF (fun hb145 hF => ?_) (fun hb145 hF => ?_)
        ·refine CR (S_bld (v := .agg [.I 0, .I 0, .str nB, .snil, .str nB, .I 0]) (b_st ty_zc_37 ty_pl_37 rfl) (S_one 50 (v := .agg (cTR tZ)) (.aggC (.cons (.refl _) (.cons (.refl _) (.cons (.refl _) (.cons (.nil _) (.refl _)))))) (S_st (j := 2) (cs' := [.I tZ.Kind, .I tZ.At, .str tZ.Name, .sl 2 (List.map cP tZ.Pairs) 0, .str tZ.Text, .I tZ.Refs]) ok rfl rfl rfl hi1 rfl ty_sz_37 rfl rfl (fun ok => Ai rfl (Ai rfl (Sn (WP_ret ?_)))))))
         replace hF := hG102 _ (F_some hF)
         with_reducible repeat first | apply Exit.sr | apply Exit.br | apply Exit.jr
         refine C_ret (fn := Tryz.f36) rfl (.cell rfl (ld_ptr (j := 2) ok rfl hi1 (p_agg (vs := [.I tZ.Kind, .I tZ.At, .str tZ.Name, .sl 2 (List.map cP tZ.Pairs) 0, .str tZ.Text, .I tZ.Refs]) ty_ag_37 ty_sz_37 rfl rfl)) (.tmp (v := .I 0) rfl (.tmp (v := .I 23) rfl .nil))) ?_
         exact ⟨_, _, (.refl _), ok.wh, _, F_some hF, rfl, rfl⟩
        ·refine WP_skip (C_seq (C_reg (mdl [(57, 2)]) (S_faP rfl ty_fd_37_3 ty_sz_35 (S_ldP (j := 1) ok rfl rfl rfl hi2 (p_one (v := .sl 2 (List.map cP a94) g95) ty_ag_35 ty_sz_35 rfl) (Ms rfl (Ms rfl (S_bld (v := .agg (cP (⟨x133, x140.1⟩ : TP))) (b_st ty_zc_57 ty_pl_57 rfl) ?_)))))))
         refine S_lit0 (cs := [.str (⟨x133, x140.1⟩ : TP).Name, .str (⟨x133, x140.1⟩ : TP).Value]) (es := (List.map cP [(⟨x133, x140.1⟩ : TP)])) rfl ty_el_35 rfl (by kernel_rfl) (by kernel_rfl) ?_
         refine S_app (j := 0) ok rfl rfl rfl rfl hg95 ty_el_35 ty_ni_35 hF ?_
         intro r146 hr146 ok hF
         refine S_faP rfl ty_fd_37_3 ty_sz_35 (S_st (j := 1) (cs' := [.I a91, .I a92, .str a93, .sl 2 (List.map cP (a94 ++ [(⟨x133, x140.1⟩ : TP)])) r146, .str a96, .I a97]) ok rfl rfl rfl hi2 rfl ty_sz_35 rfl rfl (fun ok => Sn (CR (Mb rfl (Mb rfl ?_)))))
         refine S_twoJ 8 68 hF (fun J148 hb147 hF => ?_) (fun J148 hb147 hF => ?_) (fun v149 hF => ?_)
         ·refine So rfl rfl hb147 (So rfl rfl hb147 (So rfl rfl hb147 (S_off2 rfl rfl (S_offD (S_off2 rfl rfl (S_offD (S_off2 rfl rfl (S_offD (So rfl rfl hb147 (S_pickT (v := .bool _) rfl hb147 rfl (Sn ?_)))))))))))
          refine ⟨_, hF, .hd (.refl _) ?_⟩
          repeat first | with_reducible exact .refl _ | refine .add ?_ rfl
         ·refine Sx rfl rfl hb147 (Mi rfl (Sn (Sx rfl rfl hb147 (S_bin rfl rfl (ev_eql ..) (Sn (Sx rfl rfl hb147 (Mb rfl (Sn ?_))))))))
          refine S_twoJ 4 67 hF (fun J151 hb150 hF => ?_) (fun J151 hb150 hF => ?_) (fun v152 hF => ?_)
          ·refine Sx rfl rfl hb150 (Ms rfl (Sn (Sx rfl rfl hb150 (S_call (Fc_small_ok _ hF fun x153 _ hF => (Sn (Sx rfl rfl hb150 (S_bin rfl rfl e_sneq (Sn (Sx rfl rfl hb147 (S_pickT (v := .bool _) rfl hb150 rfl (Sn (Sn ?_))))))))) (.refl _)))))
           refine ⟨_, hF, .hd (.refl _) ?_⟩
           repeat first | with_reducible exact .refl _ | refine .add ?_ rfl
          ·refine So rfl rfl hb150 (So rfl rfl hb150 (So rfl rfl hb150 (Sx rfl rfl hb147 (S_pickF (v := .bool _) rfl hb150 rfl (Sn (Sn ?_))))))
           refine ⟨_, hF, .hd (.refl _) ?_⟩
           repeat first | with_reducible exact .refl _ | refine .add ?_ rfl
          ·refine S_pickF (v := .bool _) rfl hb147 rfl (Sn ?_)
           refine ⟨_, hF, .hd (.refl _) ?_⟩
           repeat first | with_reducible exact .refl _ | refine .add ?_ rfl
         ·refine Ab rfl (Sn (C_reg (mdl []) (Mi rfl (Ai rfl (Sn ?_)))))
          exact ⟨((a94 ++ [(⟨x133, x140.1⟩ : TP)]), x140.2, v149), hF, r146, hr146, ok, WS.mk' (.k (.k (.k (.k (.k (.k .nil)))))) ok (.refl _)⟩
      ·refine CR (Mi rfl (S_bin rfl rfl (ev_eql ..) (Sn ?_)))
       refine C_if (b := (a100 == (0 : Int))) rfl hF (fun hb154 hF => ?_) (fun hb154 hF => ?_)
       ·refine CR (S_bld (v := .agg [.I 0, .I 0, .str nB, .snil, .str nB, .I 0]) (b_st ty_zc_37 ty_pl_37 rfl) (S_one 72 (v := .agg (cTR tZ)) (.aggC (.cons (.refl _) (.cons (.refl _) (.cons (.refl _) (.cons (.nil _) (.refl _)))))) (S_st (j := 2) (cs' := [.I tZ.Kind, .I tZ.At, .str tZ.Name, .sl 2 (List.map cP tZ.Pairs) 0, .str tZ.Text, .I tZ.Refs]) ok rfl rfl rfl hi1 rfl ty_sz_37 rfl rfl (fun ok => Ai rfl (Ai rfl (Sn (WP_ret ?_)))))))
        replace hF := hG102 _ (F_some hF)
        with_reducible repeat first | apply Exit.sr | apply Exit.br | apply Exit.jr
        refine C_ret (fn := Tryz.f36) rfl (.cell rfl (ld_ptr (j := 2) ok rfl hi1 (p_agg (vs := [.I tZ.Kind, .I tZ.At, .str tZ.Name, .sl 2 (List.map cP tZ.Pairs) 0, .str tZ.Text, .I tZ.Refs]) ty_ag_37 ty_sz_37 rfl rfl)) (.tmp (v := .I 0) rfl (.tmp (v := .I 23) rfl .nil))) ?_
        exact ⟨_, _, (.refl _), ok.wh, _, F_some hF, rfl, rfl⟩
       ·refine WP_skip ?_
        exact ⟨(a94, a98, a99), hF, g95, hg95, ok, WS.mk' (.k (.k (.k (.k (.k (.k .nil)))))) ok (.refl _)⟩
    ·rintro ⟨a128, a130, a131⟩ s' hF ⟨g129, hg129, ok, hws⟩
     refine WP_ws hws ?_
     clear hws s'
     refine C_reg (mdl []) (Mi rfl (S_bin rfl rfl (ev_add ..) (Ai rfl (Sn (ih104 (a85, a86, a87, a88, a89, a90, a91, a92, a93, a128, a96, a97, a130, a131, (IntKind.wrap .i64 (a100 + (1 : Int)))) _ hF ?_)))))
     exact ⟨g129, hg129, ok, WS.mk' (.k (.k (.k (.k (.k (.k .nil)))))) ok (.refl _)⟩
   ·refine WP_exit ?_
    simp only [Exit.sel, Exit.blk, Exit.jmp, if_true, if_false, reduceIte, Nat.reduceEqDiff, Nat.succ_ne_zero, Nat.zero_ne_one, Nat.one_ne_zero]
    replace hF := hG102 _ (F_some hF)
    exact ⟨(a85, a86, a87, a88, a89, a90, a91, a92, a93, a94, a96, a97, a98, a99), hF, g95, hg95, ok, WS.mk' (.k (.k (.k (.k (.k .nil))))) ok (.refl _)⟩
 ·rintro ⟨a69, a70, a71, a72, a73, a74, a75, a76, a77, a78, a80, a81, a82, a83⟩ s' hF ⟨g79, hg79, ok, hws⟩
  refine WP_ws hws ?_
  clear hws s'
  refine CR (Ms rfl (Mi rfl (S_call (Fc_White_ok _ hF fun x155 _ hF => (Ai rfl (Sn (C_seq (CR (Ms rfl (Mi rfl (S_call (Fc_Stands_ok _ hF fun x156 _ hF => (S_un rfl (ev_not _) (Sn ?_))) (.refl _))))))))) (.refl _))))
  refine C_if (b := (!x156)) rfl hF (fun hb157 hF => ?_) (fun hb157 hF => ?_)
  ·refine CR (S_bld (v := .agg [.I 0, .I 0, .str nB, .snil, .str nB, .I 0]) (b_st ty_zc_37 ty_pl_37 rfl) (S_one 80 (v := .agg (cTR tZ)) (.aggC (.cons (.refl _) (.cons (.refl _) (.cons (.refl _) (.cons (.nil _) (.refl _)))))) (S_st (j := 2) (cs' := [.I tZ.Kind, .I tZ.At, .str tZ.Name, .sl 2 (List.map cP tZ.Pairs) 0, .str tZ.Text, .I tZ.Refs]) ok rfl rfl rfl hi1 rfl ty_sz_37 rfl rfl (fun ok => Ai rfl (Ai rfl (Sn (WP_ret ?_)))))))
   with_reducible repeat first | apply Exit.sr | apply Exit.br | apply Exit.jr
   refine C_ret (fn := Tryz.f36) rfl (.cell rfl (ld_ptr (j := 2) ok rfl hi1 (p_agg (vs := [.I tZ.Kind, .I tZ.At, .str tZ.Name, .sl 2 (List.map cP tZ.Pairs) 0, .str tZ.Text, .I tZ.Refs]) ty_ag_37 ty_sz_37 rfl rfl)) (.tmp (v := .I 0) rfl (.tmp (v := .I 23) rfl .nil))) ?_
   exact ⟨_, _, (.refl _), ok.wh, _, F_some hF, rfl, rfl⟩
  ·refine WP_skip (C_seq (CR (Mb rfl (Sn ?_))))
   refine C_if (b := a83) rfl hF (fun hb158 hF => ?_) (fun hb158 hF => ?_)
   ·refine CR (S_bld (v := .agg [.I 0, .I 0, .str nB, .snil, .str nB, .I 0]) (b_st ty_zc_37 ty_pl_37 rfl) (S_one 82 (v := .agg (cTR tZ)) (.aggC (.cons (.refl _) (.cons (.refl _) (.cons (.refl _) (.cons (.nil _) (.refl _)))))) (S_st (j := 2) (cs' := [.I tZ.Kind, .I tZ.At, .str tZ.Name, .sl 2 (List.map cP tZ.Pairs) 0, .str tZ.Text, .I tZ.Refs]) ok rfl rfl rfl hi1 rfl ty_sz_37 rfl rfl (fun ok => Ai rfl (Ai rfl (Sn (WP_ret ?_)))))))
    with_reducible repeat first | apply Exit.sr | apply Exit.br | apply Exit.jr
    refine C_ret (fn := Tryz.f36) rfl (.cell rfl (ld_ptr (j := 2) ok rfl hi1 (p_agg (vs := [.I tZ.Kind, .I tZ.At, .str tZ.Name, .sl 2 (List.map cP tZ.Pairs) 0, .str tZ.Text, .I tZ.Refs]) ty_ag_37 ty_sz_37 rfl rfl)) (.tmp (v := .I 0) rfl (.tmp (v := .I 25) rfl .nil))) ?_
    exact ⟨_, _, (.refl _), ok.wh, _, F_some hF, rfl, rfl⟩
   ·refine WP_skip (CR (S_ldP (j := 1) ok rfl rfl rfl hi2 (p_agg (vs := [.I a75, .I a76, .str a77, .sl 2 (List.map cP a78) g79, .str a80, .I a81]) ty_ag_37 ty_sz_37 rfl rfl) (S_one 83 (v := .agg (cTR (⟨a75, a76, a77, a78, a80, a81⟩ : TR))) (.aggC (.cons (.refl _) (.cons (.refl _) (.cons (.refl _) (.cons (.zero _ _ _) (.refl _)))))) (Mi rfl (S_bin rfl rfl (ev_add ..) (S_st (j := 2) (cs' := [.I (⟨a75, a76, a77, a78, a80, a81⟩ : TR).Kind, .I (⟨a75, a76, a77, a78, a80, a81⟩ : TR).At, .str (⟨a75, a76, a77, a78, a80, a81⟩ : TR).Name, .sl 2 (List.map cP (⟨a75, a76, a77, a78, a80, a81⟩ : TR).Pairs) 0, .str (⟨a75, a76, a77, a78, a80, a81⟩ : TR).Text, .I (⟨a75, a76, a77, a78, a80, a81⟩ : TR).Refs]) ok rfl rfl rfl hi1 rfl ty_sz_37 rfl rfl (fun ok => Ai rfl (Ai rfl (Sn (WP_ret ?_))))))))))
    with_reducible repeat first | apply Exit.sr | apply Exit.br | apply Exit.jr
    refine C_ret (fn := Tryz.f36) rfl (.cell rfl (ld_ptr (j := 2) ok rfl hi1 (p_agg (vs := [.I (⟨a75, a76, a77, a78, a80, a81⟩ : TR).Kind, .I (⟨a75, a76, a77, a78, a80, a81⟩ : TR).At, .str (⟨a75, a76, a77, a78, a80, a81⟩ : TR).Name, .sl 2 (List.map cP (⟨a75, a76, a77, a78, a80, a81⟩ : TR).Pairs) 0, .str (⟨a75, a76, a77, a78, a80, a81⟩ : TR).Text, .I (⟨a75, a76, a77, a78, a80, a81⟩ : TR).Refs]) ty_ag_37 ty_sz_37 rfl rfl)) (.tmp (v := .I (IntKind.wrap .i64 (x155 + (2 : Int)))) rfl (.tmp (v := .I 0) rfl .nil))) ?_
    exact ⟨_, _, (.refl _), ok.wh, _, F_some hF, rfl, rfl⟩
theorem Fc_declaration_ok {β : Type} {f : TR × Int × Int → Option β} {G : β → Prop} {R : D → Heap → Prop} {p0 : LB} (h : Heap) (hF : OptP ((Fc_declaration p0).bind f) G) (hk : ∀ r, Fc_declaration p0 = some r → OptP (f r) G → R (.tup [.agg (cTR r.1), .I r.2.1, .I r.2.2]) h) : CallsA Tryz.prog 36 [.str p0] h R := by
 obtain ⟨r0, hr, hF⟩ := F_bind hF
 refine (Fc_declaration_w (G := fun r => r = r0) p0 h ⟨r0, hr, rfl⟩).mono ?_
 rintro _ _ ⟨r, rfl, rfl, rfl⟩
 exact hk _ hr hF
theorem Fa_Start_w (p0 : Int) {G : Bool → Prop} (h : Heap) (hF : OptP (Fa_Start p0) G) : CallsA Tryz.prog 62 [.I p0] h fun d h' => ∃ r, G r ∧ d = .bool r ∧ h' = h := by
 refine CallsA.ret (C_body Tryz.func62 rfl en_62 Tryz.ntmps62 rfl (fun ok => ?_))
 rw [Fa_Start] at hF
 refine CR (Ab rfl (Sn (C_seq (WP_block ?_))))
 refine C_join hF (fun (a5 : Bool) s' => OK h [] ∧ WS s' ⟨mkSl 83 [(0, .I p0), (3, .bool a5)], Hp h []⟩) (fun J6 hF => ?_) ?_
 ·refine CR (Mi rfl (S_bin rfl rfl (ev_geq ..) (Mb rfl ?_)))
  refine S_two (b := (decide ((65 : Int) ≤ p0))) 3 9 (.bool ((decide ((65 : Int) ≤ p0)) && (decide (p0 ≤ (90 : Int))))) (fun hb7 => ?_) (fun hb7 => ?_) ?_
  ·refine Sx rfl rfl hb7 (Mi rfl (Sn (Sx rfl rfl hb7 (S_bin rfl rfl (ev_leq ..) (Sn (S_pickT (v := .bool _) rfl hb7 rfl (Sn (.hd (and_t hb7) ?_))))))))
   repeat first | with_reducible exact .refl _ | refine .add ?_ rfl
  ·refine So rfl rfl hb7 (So rfl rfl hb7 (S_pickF (v := .bool _) rfl hb7 rfl (Sn (.hd (and_f hb7) ?_))))
   repeat first | with_reducible exact .refl _ | refine .add ?_ rfl
  refine Ab rfl (Sn ?_)
  refine C_if (b := ((decide ((65 : Int) ≤ p0)) && (decide (p0 ≤ (90 : Int))))) rfl hF (fun hb8 hF => ?_) (fun hb8 hF => ?_)
  ·refine WP_skip ?_
   exact ⟨((decide ((65 : Int) ≤ p0)) && (decide (p0 ≤ (90 : Int)))), hF, ok, WS.mk' (.k (.k .nil)) ok (.refl _)⟩
  ·refine CR (Mi rfl (S_bin rfl rfl (ev_eql ..) (Ab rfl (Sn ?_))))
   refine C_if (b := (p0 == (95 : Int))) rfl hF (fun hb9 hF => ?_) (fun hb9 hF => ?_)
   ·refine WP_skip ?_
    exact ⟨(p0 == (95 : Int)), hF, ok, WS.mk' (.k (.k .nil)) ok (.refl _)⟩
   ·refine C_reg (mdl []) (Mi rfl (S_bin rfl rfl (ev_geq ..) (Mb rfl ?_)))
    refine S_two (b := (decide ((97 : Int) ≤ p0))) 3 17 (.bool ((decide ((97 : Int) ≤ p0)) && (decide (p0 ≤ (122 : Int))))) (fun hb10 => ?_) (fun hb10 => ?_) ?_
    ·refine Sx rfl rfl hb10 (Mi rfl (Sn (Sx rfl rfl hb10 (S_bin rfl rfl (ev_leq ..) (Sn (S_pickT (v := .bool _) rfl hb10 rfl (Sn (.hd (and_t hb10) ?_))))))))
     repeat first | with_reducible exact .refl _ | refine .add ?_ rfl
    ·refine So rfl rfl hb10 (So rfl rfl hb10 (S_pickF (v := .bool _) rfl hb10 rfl (Sn (.hd (and_f hb10) ?_))))
     repeat first | with_reducible exact .refl _ | refine .add ?_ rfl
    refine Ab rfl (Sn ?_)
    exact ⟨((decide ((97 : Int) ≤ p0)) && (decide (p0 ≤ (122 : Int)))), hF, ok, WS.mk' (.k (.k .nil)) ok (.refl _)⟩
 ·rintro a5 s' hF ⟨ok, hws⟩
  refine WP_ws hws ?_
  clear hws s'
  refine C_if (b := a5) rfl hF (fun hb11 hF => ?_) (fun hb11 hF => ?_)
  ·refine CR (Ab rfl (Sn (WP_ret ?_)))
   with_reducible repeat first | apply Exit.sr | apply Exit.br | apply Exit.jr
   refine C_ret (fn := Tryz.f62) rfl (.tmp (v := .bool true) rfl .nil) ?_
   exact ⟨_, _, (.refl _), ok.wh, _, F_some hF, rfl, rfl⟩
  ·refine CR (Mi rfl (S_bin rfl rfl (ev_geq ..) (Mb rfl ?_)))
   refine S_two (b := (decide ((192 : Int) ≤ p0))) 3 24 (.bool ((decide ((192 : Int) ≤ p0)) && (decide (p0 ≤ (767 : Int))))) (fun hb12 => ?_) (fun hb12 => ?_) ?_
   ·refine Sx rfl rfl hb12 (Mi rfl (Sn (Sx rfl rfl hb12 (S_bin rfl rfl (ev_leq ..) (Sn (S_pickT (v := .bool _) rfl hb12 rfl (Sn (.hd (and_t hb12) ?_))))))))
    repeat first | with_reducible exact .refl _ | refine .add ?_ rfl
   ·refine So rfl rfl hb12 (So rfl rfl hb12 (S_pickF (v := .bool _) rfl hb12 rfl (Sn (.hd (and_f hb12) ?_))))
    repeat first | with_reducible exact .refl _ | refine .add ?_ rfl
   refine Ab rfl (Sn ?_)
   refine C_if (b := ((decide ((192 : Int) ≤ p0)) && (decide (p0 ≤ (767 : Int))))) rfl hF (fun hb13 hF => ?_) (fun hb13 hF => ?_)
   ·refine CR (Mi rfl (S_bin rfl rfl (ev_neq ..) (Mb rfl ?_)))
    refine S_two (b := (p0 != (215 : Int))) 3 30 (.bool ((p0 != (215 : Int)) && (p0 != (247 : Int)))) (fun hb14 => ?_) (fun hb14 => ?_) ?_
    ·refine Sx rfl rfl hb14 (Mi rfl (Sn (Sx rfl rfl hb14 (S_bin rfl rfl (ev_neq ..) (Sn (S_pickT (v := .bool _) rfl hb14 rfl (Sn (.hd (and_t hb14) ?_))))))))
     repeat first | with_reducible exact .refl _ | refine .add ?_ rfl
    ·refine So rfl rfl hb14 (So rfl rfl hb14 (S_pickF (v := .bool _) rfl hb14 rfl (Sn (.hd (and_f hb14) ?_))))
     repeat first | with_reducible exact .refl _ | refine .add ?_ rfl
    refine Ab rfl (Sn (WP_ret ?_))
    with_reducible repeat first | apply Exit.sr | apply Exit.br | apply Exit.jr
    refine C_ret (fn := Tryz.f62) rfl (.tmp (v := .bool ((p0 != (215 : Int)) && (p0 != (247 : Int)))) rfl .nil) ?_
    exact ⟨_, _, (.refl _), ok.wh, _, F_some hF, rfl, rfl⟩
   ·refine CR (Mi rfl (S_bin rfl rfl (ev_geq ..) (Mb rfl ?_)))
    refine S_two (b := (decide ((880 : Int) ≤ p0))) 3 37 (.bool ((decide ((880 : Int) ≤ p0)) && (decide (p0 ≤ (8191 : Int))))) (fun hb15 => ?_) (fun hb15 => ?_) ?_
    ·refine Sx rfl rfl hb15 (Mi rfl (Sn (Sx rfl rfl hb15 (S_bin rfl rfl (ev_leq ..) (Sn (S_pickT (v := .bool _) rfl hb15 rfl (Sn (.hd (and_t hb15) ?_))))))))
     repeat first | with_reducible exact .refl _ | refine .add ?_ rfl
    ·refine So rfl rfl hb15 (So rfl rfl hb15 (S_pickF (v := .bool _) rfl hb15 rfl (Sn (.hd (and_f hb15) ?_))))
     repeat first | with_reducible exact .refl _ | refine .add ?_ rfl
    refine Ab rfl (Sn ?_)
    refine C_if (b := ((decide ((880 : Int) ≤ p0)) && (decide (p0 ≤ (8191 : Int))))) rfl hF (fun hb16 hF => ?_) (fun hb16 hF => ?_)
    ·refine CR (Mi rfl (S_bin rfl rfl (ev_neq ..) (Ab rfl (Sn (WP_ret ?_)))))
     with_reducible repeat first | apply Exit.sr | apply Exit.br | apply Exit.jr
     refine C_ret (fn := Tryz.f62) rfl (.tmp (v := .bool (p0 != (894 : Int))) rfl .nil) ?_
     exact ⟨_, _, (.refl _), ok.wh, _, F_some hF, rfl, rfl⟩
    ·refine C_join hF (fun (a18 : Bool) s' => OK h [] ∧ WS s' ⟨mkSl 83 [(0, .I p0), (40, .bool a18)], Hp h []⟩) (fun J19 hF => ?_) ?_
     ·refine CR (Mi rfl (S_bin rfl rfl (ev_eql ..) (Ab rfl (Sn ?_))))
      refine C_if (b := (p0 == (8204 : Int))) rfl hF (fun hb20 hF => ?_) (fun hb20 hF => ?_)
      ·refine WP_skip ?_
       exact ⟨(p0 == (8204 : Int)), hF, ok, WS.mk' (.k (.k .nil)) ok (.refl _)⟩
      ·refine C_reg (mdl []) (Mi rfl (S_bin rfl rfl (ev_eql ..) (Ab rfl (Sn ?_))))
       exact ⟨(p0 == (8205 : Int)), hF, ok, WS.mk' (.k (.k .nil)) ok (.refl _)⟩
     ·rintro a18 s' hF ⟨ok, hws⟩
      refine WP_ws hws ?_
      clear hws s'
      refine C_if (b := a18) rfl hF (fun hb21 hF => ?_) (fun hb21 hF => ?_)
      ·refine CR (Ab rfl (Sn (WP_ret ?_)))
       with_reducible repeat first | apply Exit.sr | apply Exit.br | apply Exit.jr
       refine C_ret (fn := Tryz.f62) rfl (.tmp (v := .bool true) rfl .nil) ?_
       exact ⟨_, _, (.refl _), ok.wh, _, F_some hF, rfl, rfl⟩
      ·refine C_join hF (fun (a27 : Bool) s' => OK h [] ∧ WS s' ⟨mkSl 83 [(0, .I p0), (45, .bool a27)], Hp h []⟩) (fun J28 hF => ?_) ?_
       ·refine CR (Mi rfl (S_bin rfl rfl (ev_geq ..) (Mb rfl ?_)))
        refine S_two (b := (decide ((8304 : Int) ≤ p0))) 3 51 (.bool ((decide ((8304 : Int) ≤ p0)) && (decide (p0 ≤ (8591 : Int))))) (fun hb29 => ?_) (fun hb29 => ?_) ?_
        ·refine Sx rfl rfl hb29 (Mi rfl (Sn (Sx rfl rfl hb29 (S_bin rfl rfl (ev_leq ..) (Sn (S_pickT (v := .bool _) rfl hb29 rfl (Sn (.hd (and_t hb29) ?_))))))))
         repeat first | with_reducible exact .refl _ | refine .add ?_ rfl
        ·refine So rfl rfl hb29 (So rfl rfl hb29 (S_pickF (v := .bool _) rfl hb29 rfl (Sn (.hd (and_f hb29) ?_))))
         repeat first | with_reducible exact .refl _ | refine .add ?_ rfl
        refine Ab rfl (Sn ?_)
        refine C_if (b := ((decide ((8304 : Int) ≤ p0)) && (decide (p0 ≤ (8591 : Int))))) rfl hF (fun hb30 hF => ?_) (fun hb30 hF => ?_)
        ·refine WP_skip ?_
         exact ⟨((decide ((8304 : Int) ≤ p0)) && (decide (p0 ≤ (8591 : Int)))), hF, ok, WS.mk' (.k (.k .nil)) ok (.refl _)⟩
        ·refine CR (Mi rfl (S_bin rfl rfl (ev_geq ..) (Mb rfl ?_)))
         refine S_two (b := (decide ((11264 : Int) ≤ p0))) 3 57 (.bool ((decide ((11264 : Int) ≤ p0)) && (decide (p0 ≤ (12271 : Int))))) (fun hb31 => ?_) (fun hb31 => ?_) ?_
         ·refine Sx rfl rfl hb31 (Mi rfl (Sn (Sx rfl rfl hb31 (S_bin rfl rfl (ev_leq ..) (Sn (S_pickT (v := .bool _) rfl hb31 rfl (Sn (.hd (and_t hb31) ?_))))))))
          repeat first | with_reducible exact .refl _ | refine .add ?_ rfl
         ·refine So rfl rfl hb31 (So rfl rfl hb31 (S_pickF (v := .bool _) rfl hb31 rfl (Sn (.hd (and_f hb31) ?_))))
          repeat first | with_reducible exact .refl _ | refine .add ?_ rfl
         refine Ab rfl (Sn ?_)
         refine C_if (b := ((decide ((11264 : Int) ≤ p0)) && (decide (p0 ≤ (12271 : Int))))) rfl hF (fun hb32 hF => ?_) (fun hb32 hF => ?_)
         ·refine WP_skip ?_
          exact ⟨((decide ((11264 : Int) ≤ p0)) && (decide (p0 ≤ (12271 : Int)))), hF, ok, WS.mk' (.k (.k .nil)) ok (.refl _)⟩
         ·refine C_reg (mdl []) (Mi rfl (S_bin rfl rfl (ev_geq ..) (Mb rfl ?_)))
          refine S_two (b := (decide ((12289 : Int) ≤ p0))) 3 63 (.bool ((decide ((12289 : Int) ≤ p0)) && (decide (p0 ≤ (55295 : Int))))) (fun hb33 => ?_) (fun hb33 => ?_) ?_
          ·refine Sx rfl rfl hb33 (Mi rfl (Sn (Sx rfl rfl hb33 (S_bin rfl rfl (ev_leq ..) (Sn (S_pickT (v := .bool _) rfl hb33 rfl (Sn (.hd (and_t hb33) ?_))))))))
           repeat first | with_reducible exact .refl _ | refine .add ?_ rfl
          ·refine So rfl rfl hb33 (So rfl rfl hb33 (S_pickF (v := .bool _) rfl hb33 rfl (Sn (.hd (and_f hb33) ?_))))
           repeat first | with_reducible exact .refl _ | refine .add ?_ rfl
          refine Ab rfl (Sn ?_)
          exact ⟨((decide ((12289 : Int) ≤ p0)) && (decide (p0 ≤ (55295 : Int)))), hF, ok, WS.mk' (.k (.k .nil)) ok (.refl _)⟩
       ·rintro a27 s' hF ⟨ok, hws⟩
        refine WP_ws hws ?_
        clear hws s'
        refine C_if (b := a27) rfl hF (fun hb34 hF => ?_) (fun hb34 hF => ?_)
        ·refine CR (Ab rfl (Sn (WP_ret ?_)))
         with_reducible repeat first | apply Exit.sr | apply Exit.br | apply Exit.jr
         refine C_ret (fn := Tryz.f62) rfl (.tmp (v := .bool true) rfl .nil) ?_
         exact ⟨_, _, (.refl _), ok.wh, _, F_some hF, rfl, rfl⟩
        ·refine CR (Mi rfl (S_bin rfl rfl (ev_geq ..) (Mb rfl ?_)))
         refine S_two (b := (decide ((63744 : Int) ≤ p0))) 3 70 (.bool ((decide ((63744 : Int) ≤ p0)) && (decide (p0 ≤ (65533 : Int))))) (fun hb35 => ?_) (fun hb35 => ?_) ?_
         ·refine Sx rfl rfl hb35 (Mi rfl (Sn (Sx rfl rfl hb35 (S_bin rfl rfl (ev_leq ..) (Sn (S_pickT (v := .bool _) rfl hb35 rfl (Sn (.hd (and_t hb35) ?_))))))))
          repeat first | with_reducible exact .refl _ | refine .add ?_ rfl
         ·refine So rfl rfl hb35 (So rfl rfl hb35 (S_pickF (v := .bool _) rfl hb35 rfl (Sn (.hd (and_f hb35) ?_))))
          repeat first | with_reducible exact .refl _ | refine .add ?_ rfl
         refine Ab rfl (Sn ?_)
         refine C_if (b := ((decide ((63744 : Int) ≤ p0)) && (decide (p0 ≤ (65533 : Int))))) rfl hF (fun hb36 hF => ?_) (fun hb36 hF => ?_)
         ·refine CR (Mi rfl (S_bin rfl rfl (ev_lss ..) (Mb rfl ?_)))
          refine S_two (b := (decide (p0 < (64976 : Int)))) 3 76 (.bool ((decide (p0 < (64976 : Int))) || (decide ((65008 : Int) ≤ p0)))) (fun hb37 => ?_) (fun hb37 => ?_) ?_
          ·refine So rfl rfl hb37 (So rfl rfl hb37 (S_pickT (v := .bool _) rfl hb37 rfl (Sn (.hd (or_t hb37) ?_))))
           repeat first | with_reducible exact .refl _ | refine .add ?_ rfl
          ·refine Sx rfl rfl hb37 (Mi rfl (Sn (Sx rfl rfl hb37 (S_bin rfl rfl (ev_geq ..) (Sn (S_pickF (v := .bool _) rfl hb37 rfl (Sn (.hd (or_f hb37) ?_))))))))
           repeat first | with_reducible exact .refl _ | refine .add ?_ rfl
          refine Ab rfl (Sn (WP_ret ?_))
          with_reducible repeat first | apply Exit.sr | apply Exit.br | apply Exit.jr
          refine C_ret (fn := Tryz.f62) rfl (.tmp (v := .bool ((decide (p0 < (64976 : Int))) || (decide ((65008 : Int) ≤ p0)))) rfl .nil) ?_
          exact ⟨_, _, (.refl _), ok.wh, _, F_some hF, rfl, rfl⟩
         ·refine WP_skip (CR (Mi rfl (S_bin rfl rfl (ev_geq ..) (Mb rfl ?_))))
          refine S_two (b := (decide ((65536 : Int) ≤ p0))) 3 82 (.bool ((decide ((65536 : Int) ≤ p0)) && (decide (p0 ≤ (983039 : Int))))) (fun hb38 => ?_) (fun hb38 => ?_) ?_
          ·refine Sx rfl rfl hb38 (Mi rfl (Sn (Sx rfl rfl hb38 (S_bin rfl rfl (ev_leq ..) (Sn (S_pickT (v := .bool _) rfl hb38 rfl (Sn (.hd (and_t hb38) ?_))))))))
           repeat first | with_reducible exact .refl _ | refine .add ?_ rfl
          ·refine So rfl rfl hb38 (So rfl rfl hb38 (S_pickF (v := .bool _) rfl hb38 rfl (Sn (.hd (and_f hb38) ?_))))
           repeat first | with_reducible exact .refl _ | refine .add ?_ rfl
          refine Ab rfl (Sn (WP_ret ?_))
          with_reducible repeat first | apply Exit.sr | apply Exit.br | apply Exit.jr
          refine C_ret (fn := Tryz.f62) rfl (.tmp (v := .bool ((decide ((65536 : Int) ≤ p0)) && (decide (p0 ≤ (983039 : Int))))) rfl .nil) ?_
          exact ⟨_, _, (.refl _), ok.wh, _, F_some hF, rfl, rfl⟩
theorem Fa_Start_ok {β : Type} {f : Bool → Option β} {G : β → Prop} {R : D → Heap → Prop} {p0 : Int} (h : Heap) (hF : OptP ((Fa_Start p0).bind f) G) (hk : ∀ r, Fa_Start p0 = some r → OptP (f r) G → R (.bool r) h) : CallsA Tryz.prog 62 [.I p0] h R := by
 obtain ⟨r0, hr, hF⟩ := F_bind hF
 refine (Fa_Start_w (G := fun r => r = r0) p0 h ⟨r0, hr, rfl⟩).mono ?_
 rintro _ _ ⟨r, rfl, rfl, rfl⟩
 exact hk _ hr hF
theorem Fa_Part_w (p0 : Int) {G : Bool → Prop} (h : Heap) (hF : OptP (Fa_Part p0) G) : CallsA Tryz.prog 61 [.I p0] h fun d h' => ∃ r, G r ∧ d = .bool r ∧ h' = h := by
 refine CallsA.ret (C_body Tryz.func61 rfl en_61 Tryz.ntmps61 rfl (fun ok => ?_))
 rw [Fa_Part] at hF
 refine CR (Ab rfl (Sn (CR (Mi rfl (S_call (Fa_Start_ok _ hF fun x1 _ hF => (Mb rfl ?_)) (.refl _))))))
 refine S_two (b := x1) 3 8 (.bool (x1 || (p0 == (45 : Int)))) (fun hb2 => ?_) (fun hb2 => ?_) ?_
 ·refine So rfl rfl hb2 (So rfl rfl hb2 (S_pickT (v := .bool _) rfl hb2 rfl (Sn (.hd (or_t hb2) ?_))))
  repeat first | with_reducible exact .refl _ | refine .add ?_ rfl
 ·refine Sx rfl rfl hb2 (Mi rfl (Sn (Sx rfl rfl hb2 (S_bin rfl rfl (ev_eql ..) (Sn (S_pickF (v := .bool _) rfl hb2 rfl (Sn (.hd (or_f hb2) ?_))))))))
  repeat first | with_reducible exact .refl _ | refine .add ?_ rfl
 refine Mb rfl ?_
 refine S_two (b := (x1 || (p0 == (45 : Int)))) 3 12 (.bool ((x1 || (p0 == (45 : Int))) || (p0 == (46 : Int)))) (fun hb3 => ?_) (fun hb3 => ?_) ?_
 ·refine So rfl rfl hb3 (So rfl rfl hb3 (S_pickT (v := .bool _) rfl hb3 rfl (Sn (.hd (or_t hb3) ?_))))
  repeat first | with_reducible exact .refl _ | refine .add ?_ rfl
 ·refine Sx rfl rfl hb3 (Mi rfl (Sn (Sx rfl rfl hb3 (S_bin rfl rfl (ev_eql ..) (Sn (S_pickF (v := .bool _) rfl hb3 rfl (Sn (.hd (or_f hb3) ?_))))))))
  repeat first | with_reducible exact .refl _ | refine .add ?_ rfl
 refine Mb rfl ?_
 refine S_two (b := ((x1 || (p0 == (45 : Int))) || (p0 == (46 : Int)))) 7 20 (.bool (((x1 || (p0 == (45 : Int))) || (p0 == (46 : Int))) || ((decide ((48 : Int) ≤ p0)) && (decide (p0 ≤ (57 : Int)))))) (fun hb4 => ?_) (fun hb4 => ?_) ?_
 ·refine So rfl rfl hb4 (So rfl rfl hb4 (So rfl rfl hb4 (S_off2 rfl rfl (S_offD (S_off2 rfl rfl (S_offD (So rfl rfl hb4 (S_pickT (v := .bool _) rfl hb4 rfl (Sn (.hd (or_t hb4) ?_))))))))))
  repeat first | with_reducible exact .refl _ | refine .add ?_ rfl
 ·refine Sx rfl rfl hb4 (Mi rfl (Sn (Sx rfl rfl hb4 (S_bin rfl rfl (ev_geq ..) (Sn (Sx rfl rfl hb4 (Mb rfl (Sn ?_))))))))
  refine S_two (b := (decide ((48 : Int) ≤ p0))) 3 19 (.bool ((decide ((48 : Int) ≤ p0)) && (decide (p0 ≤ (57 : Int))))) (fun hb6 => ?_) (fun hb6 => ?_) ?_
  ·refine Sx rfl rfl hb6 (Mi rfl (Sn (Sx rfl rfl hb6 (S_bin rfl rfl (ev_leq ..) (Sn (Sx rfl rfl hb4 (S_pickT (v := .bool _) rfl hb6 rfl (Sn (Sn (.hd (and_t hb6) ?_))))))))))
   repeat first | with_reducible exact .refl _ | refine .add ?_ rfl
  ·refine So rfl rfl hb6 (So rfl rfl hb6 (Sx rfl rfl hb4 (S_pickF (v := .bool _) rfl hb6 rfl (Sn (Sn (.hd (and_f hb6) ?_))))))
   repeat first | with_reducible exact .refl _ | refine .add ?_ rfl
  refine S_pickF (v := .bool _) rfl hb4 rfl (Sn (.hd (or_f hb4) ?_))
  repeat first | with_reducible exact .refl _ | refine .add ?_ rfl
 refine Mb rfl ?_
 refine S_two (b := (((x1 || (p0 == (45 : Int))) || (p0 == (46 : Int))) || ((decide ((48 : Int) ≤ p0)) && (decide (p0 ≤ (57 : Int)))))) 3 24 (.bool ((((x1 || (p0 == (45 : Int))) || (p0 == (46 : Int))) || ((decide ((48 : Int) ≤ p0)) && (decide (p0 ≤ (57 : Int))))) || (p0 == (183 : Int)))) (fun hb7 => ?_) (fun hb7 => ?_) ?_
 ·refine So rfl rfl hb7 (So rfl rfl hb7 (S_pickT (v := .bool _) rfl hb7 rfl (Sn (.hd (or_t hb7) ?_))))
  repeat first | with_reducible exact .refl _ | refine .add ?_ rfl
 ·refine Sx rfl rfl hb7 (Mi rfl (Sn (Sx rfl rfl hb7 (S_bin rfl rfl (ev_eql ..) (Sn (S_pickF (v := .bool _) rfl hb7 rfl (Sn (.hd (or_f hb7) ?_))))))))
  repeat first | with_reducible exact .refl _ | refine .add ?_ rfl
 refine Mb rfl ?_
 refine S_two (b := ((((x1 || (p0 == (45 : Int))) || (p0 == (46 : Int))) || ((decide ((48 : Int) ≤ p0)) && (decide (p0 ≤ (57 : Int))))) || (p0 == (183 : Int)))) 7 32 (.bool (((((x1 || (p0 == (45 : Int))) || (p0 == (46 : Int))) || ((decide ((48 : Int) ≤ p0)) && (decide (p0 ≤ (57 : Int))))) || (p0 == (183 : Int))) || ((decide ((768 : Int) ≤ p0)) && (decide (p0 ≤ (879 : Int)))))) (fun hb8 => ?_) (fun hb8 => ?_) ?_
 ·refine So rfl rfl hb8 (So rfl rfl hb8 (So rfl rfl hb8 (S_off2 rfl rfl (S_offD (S_off2 rfl rfl (S_offD (So rfl rfl hb8 (S_pickT (v := .bool _) rfl hb8 rfl (Sn (.hd (or_t hb8) ?_))))))))))
  repeat first | with_reducible exact .refl _ | refine .add ?_ rfl
 ·refine Sx rfl rfl hb8 (Mi rfl (Sn (Sx rfl rfl hb8 (S_bin rfl rfl (ev_geq ..) (Sn (Sx rfl rfl hb8 (Mb rfl (Sn ?_))))))))
  refine S_two (b := (decide ((768 : Int) ≤ p0))) 3 31 (.bool ((decide ((768 : Int) ≤ p0)) && (decide (p0 ≤ (879 : Int))))) (fun hb10 => ?_) (fun hb10 => ?_) ?_
  ·refine Sx rfl rfl hb10 (Mi rfl (Sn (Sx rfl rfl hb10 (S_bin rfl rfl (ev_leq ..) (Sn (Sx rfl rfl hb8 (S_pickT (v := .bool _) rfl hb10 rfl (Sn (Sn (.hd (and_t hb10) ?_))))))))))
   repeat first | with_reducible exact .refl _ | refine .add ?_ rfl
  ·refine So rfl rfl hb10 (So rfl rfl hb10 (Sx rfl rfl hb8 (S_pickF (v := .bool _) rfl hb10 rfl (Sn (Sn (.hd (and_f hb10) ?_))))))
   repeat first | with_reducible exact .refl _ | refine .add ?_ rfl
  refine S_pickF (v := .bool _) rfl hb8 rfl (Sn (.hd (or_f hb8) ?_))
  repeat first | with_reducible exact .refl _ | refine .add ?_ rfl
 refine Mb rfl ?_
 refine S_two (b := (((((x1 || (p0 == (45 : Int))) || (p0 == (46 : Int))) || ((decide ((48 : Int) ≤ p0)) && (decide (p0 ≤ (57 : Int))))) || (p0 == (183 : Int))) || ((decide ((768 : Int) ≤ p0)) && (decide (p0 ≤ (879 : Int)))))) 3 36 (.bool ((((((x1 || (p0 == (45 : Int))) || (p0 == (46 : Int))) || ((decide ((48 : Int) ≤ p0)) && (decide (p0 ≤ (57 : Int))))) || (p0 == (183 : Int))) || ((decide ((768 : Int) ≤ p0)) && (decide (p0 ≤ (879 : Int))))) || (p0 == (8255 : Int)))) (fun hb11 => ?_) (fun hb11 => ?_) ?_
 ·refine So rfl rfl hb11 (So rfl rfl hb11 (S_pickT (v := .bool _) rfl hb11 rfl (Sn (.hd (or_t hb11) ?_))))
  repeat first | with_reducible exact .refl _ | refine .add ?_ rfl
 ·refine Sx rfl rfl hb11 (Mi rfl (Sn (Sx rfl rfl hb11 (S_bin rfl rfl (ev_eql ..) (Sn (S_pickF (v := .bool _) rfl hb11 rfl (Sn (.hd (or_f hb11) ?_))))))))
  repeat first | with_reducible exact .refl _ | refine .add ?_ rfl
 refine Mb rfl ?_
 refine S_two (b := ((((((x1 || (p0 == (45 : Int))) || (p0 == (46 : Int))) || ((decide ((48 : Int) ≤ p0)) && (decide (p0 ≤ (57 : Int))))) || (p0 == (183 : Int))) || ((decide ((768 : Int) ≤ p0)) && (decide (p0 ≤ (879 : Int))))) || (p0 == (8255 : Int)))) 3 40 (.bool (((((((x1 || (p0 == (45 : Int))) || (p0 == (46 : Int))) || ((decide ((48 : Int) ≤ p0)) && (decide (p0 ≤ (57 : Int))))) || (p0 == (183 : Int))) || ((decide ((768 : Int) ≤ p0)) && (decide (p0 ≤ (879 : Int))))) || (p0 == (8255 : Int))) || (p0 == (8256 : Int)))) (fun hb12 => ?_) (fun hb12 => ?_) ?_
 ·refine So rfl rfl hb12 (So rfl rfl hb12 (S_pickT (v := .bool _) rfl hb12 rfl (Sn (.hd (or_t hb12) ?_))))
  repeat first | with_reducible exact .refl _ | refine .add ?_ rfl
 ·refine Sx rfl rfl hb12 (Mi rfl (Sn (Sx rfl rfl hb12 (S_bin rfl rfl (ev_eql ..) (Sn (S_pickF (v := .bool _) rfl hb12 rfl (Sn (.hd (or_f hb12) ?_))))))))
  repeat first | with_reducible exact .refl _ | refine .add ?_ rfl
 refine Ab rfl (Sn (WP_ret ?_))
 with_reducible repeat first | apply Exit.sr | apply Exit.br | apply Exit.jr
 refine C_ret (fn := Tryz.f61) rfl (.tmp (v := .bool (((((((x1 || (p0 == (45 : Int))) || (p0 == (46 : Int))) || ((decide ((48 : Int) ≤ p0)) && (decide (p0 ≤ (57 : Int))))) || (p0 == (183 : Int))) || ((decide ((768 : Int) ≤ p0)) && (decide (p0 ≤ (879 : Int))))) || (p0 == (8255 : Int))) || (p0 == (8256 : Int)))) rfl .nil) ?_
 exact ⟨_, _, (.refl _), ok.wh, _, F_some hF, rfl, rfl⟩
theorem Fa_Part_ok {β : Type} {f : Bool → Option β} {G : β → Prop} {R : D → Heap → Prop} {p0 : Int} (h : Heap) (hF : OptP ((Fa_Part p0).bind f) G) (hk : ∀ r, Fa_Part p0 = some r → OptP (f r) G → R (.bool r) h) : CallsA Tryz.prog 61 [.I p0] h R := by
 obtain ⟨r0, hr, hF⟩ := F_bind hF
 refine (Fa_Part_w (G := fun r => r = r0) p0 h ⟨r0, hr, rfl⟩).mono ?_
 rintro _ _ ⟨r, rfl, rfl, rfl⟩
 exact hk _ hr hF
theorem Fa_Name_w (p0 : LB) {G : Bool → Prop} (h : Heap) (hF : OptP (Fa_Name p0) G) : CallsA Tryz.prog 60 [.str p0] h fun d h' => ∃ r, G r ∧ d = .bool r ∧ h' = h := by
 refine CallsA.ret (C_body Tryz.func60 rfl en_60 Tryz.ntmps60 rfl (fun ok => ?_))
 rw [Fa_Name] at hF
 refine CR (Ab rfl (Sn (CR (Ms rfl (S_byt0 rfl rfl ty_sl_22 ty_st_9 ty_ki_5 (S_a (v := .sl _ _ _) rfl (Sn (C_seq (CR (Ml rfl (S_lenL rfl ty_sl_22 (S_bin rfl rfl (ev_eql ..) (Mb rfl ?_)))))))))))))
 refine S_two (b := ((p0.length : Int) == (0 : Int))) 4 16 (.bool (((p0.length : Int) == (0 : Int)) || (decide ((100 : Int) < (p0.length : Int))))) (fun hb1 => ?_) (fun hb1 => ?_) ?_
 ·refine So rfl rfl hb1 (So rfl rfl hb1 (So rfl rfl hb1 (S_pickT (v := .bool _) rfl hb1 rfl (Sn (.hd (or_t hb1) ?_)))))
  repeat first | with_reducible exact .refl _ | refine .add ?_ rfl
 ·refine Sx rfl rfl hb1 (Ml rfl (Sn (Sx rfl rfl hb1 (S_lenL rfl ty_sl_22 (Sn (Sx rfl rfl hb1 (S_bin rfl rfl (ev_gtr ..) (Sn (S_pickF (v := .bool _) rfl hb1 rfl (Sn (.hd (or_f hb1) ?_)))))))))))
  repeat first | with_reducible exact .refl _ | refine .add ?_ rfl
 refine Sn ?_
 refine C_if (b := (((p0.length : Int) == (0 : Int)) || (decide ((100 : Int) < (p0.length : Int))))) rfl hF (fun hb2 hF => ?_) (fun hb2 hF => ?_)
 ·refine CR (Ab rfl (Sn (WP_ret ?_)))
  with_reducible repeat first | apply Exit.sr | apply Exit.br | apply Exit.jr
  refine C_ret (fn := Tryz.f60) rfl (.tmp (v := .bool false) rfl .nil) ?_
  exact ⟨_, _, (.refl _), ok.wh, _, F_some hF, rfl, rfl⟩
 ·refine WP_skip ?_
  refine C_join hF (fun (_ : Unit) s' => OK h [] ∧ WS s' ⟨mkSl 46 [], Hp h []⟩) (fun J18 hF => ?_) ?_
  ·refine CR (Ai rfl (Sn (WP_block ?_)))
   refine C_loop (σ := Int) hF (fun (a19 : Int) s' => OK h [] ∧ WS s' ⟨mkSl 46 [(3, .sl 1 (List.map c_u8 p0) 0), (4, .I a19)], Hp h []⟩) ?_ ?_
   ·exact ⟨ok, WS.mk' (.k (.k .nil)) ok (.refl _)⟩
   ·rintro G20 hG21 rec22 a19 s' ih23 hF ⟨ok, hws⟩
    refine WP_ws hws ?_
    clear hws s'
    rw [Fa_Name_l0] at hF
    refine C_seq (CR (Mi rfl (Ml rfl (S_lenL rfl ty_sl_22 (S_bin rfl rfl (ev_lss ..) (Sn ?_))))))
    refine C_if (b := (decide (a19 < (p0.length : Int)))) rfl hF (fun hb24 hF => ?_) (fun hb24 hF => ?_)
    ·refine WP_skip (WP_block (CR (Ml rfl (Mi rfl (S_call (Fa_Read_ok _ hF fun x25 _ hF => (S_m (v := .tup _) rfl (S_ext rfl rfl (S_ext rfl rfl (Ai rfl (Ai rfl (Sn (C_seq (CR (Mi rfl (S_bin rfl rfl (ev_eql ..) (Mb rfl ?_)))))))))))) (.refl _))))))
     refine S_twoJ 4 33 hF (fun J27 hb26 hF => ?_) (fun J27 hb26 hF => ?_) (fun v28 hF => ?_)
     ·refine So rfl rfl hb26 (So rfl rfl hb26 (So rfl rfl hb26 (S_pickT (v := .bool _) rfl hb26 rfl (Sn ?_))))
      refine ⟨_, hF, .hd (.refl _) ?_⟩
      repeat first | with_reducible exact .refl _ | refine .add ?_ rfl
     ·refine Sx rfl rfl hb26 (Mi rfl (Sn (Sx rfl rfl hb26 (S_call (Fa_Part_ok _ hF fun x29 _ hF => (Sn (Sx rfl rfl hb26 (S_un rfl (ev_not _) (Sn (S_pickF (v := .bool _) rfl hb26 rfl (Sn ?_))))))) (.refl _)))))
      refine ⟨_, hF, .hd (.refl _) ?_⟩
      repeat first | with_reducible exact .refl _ | refine .add ?_ rfl
     ·refine Mb rfl ?_
      refine S_twoJ 8 42 hF (fun J31 hb30 hF => ?_) (fun J31 hb30 hF => ?_) (fun v32 hF => ?_)
      ·refine So rfl rfl hb30 (So rfl rfl hb30 (So rfl rfl hb30 (S_off2 rfl rfl (S_offD (S_off2 rfl rfl (S_offD (S_off2 rfl rfl (S_offD (So rfl rfl hb30 (S_pickT (v := .bool _) rfl hb30 rfl (Sn ?_)))))))))))
       refine ⟨_, hF, .hd (.refl _) ?_⟩
       repeat first | with_reducible exact .refl _ | refine .add ?_ rfl
      ·refine Sx rfl rfl hb30 (Mi rfl (Sn (Sx rfl rfl hb30 (S_bin rfl rfl (ev_eql ..) (Sn (Sx rfl rfl hb30 (Mb rfl (Sn ?_))))))))
       refine S_twoJ 4 41 hF (fun J34 hb33 hF => ?_) (fun J34 hb33 hF => ?_) (fun v35 hF => ?_)
       ·refine Sx rfl rfl hb33 (Mi rfl (Sn (Sx rfl rfl hb33 (S_call (Fa_Start_ok _ hF fun x36 _ hF => (Sn (Sx rfl rfl hb33 (S_un rfl (ev_not _) (Sn (Sx rfl rfl hb30 (S_pickT (v := .bool _) rfl hb33 rfl (Sn (Sn ?_))))))))) (.refl _)))))
        refine ⟨_, hF, .hd (.refl _) ?_⟩
        repeat first | with_reducible exact .refl _ | refine .add ?_ rfl
       ·refine So rfl rfl hb33 (So rfl rfl hb33 (So rfl rfl hb33 (Sx rfl rfl hb30 (S_pickF (v := .bool _) rfl hb33 rfl (Sn (Sn ?_))))))
        refine ⟨_, hF, .hd (.refl _) ?_⟩
        repeat first | with_reducible exact .refl _ | refine .add ?_ rfl
       ·refine S_pickF (v := .bool _) rfl hb30 rfl (Sn ?_)
        refine ⟨_, hF, .hd (.refl _) ?_⟩
        repeat first | with_reducible exact .refl _ | refine .add ?_ rfl
      ·refine Sn ?_
       refine C_if (b := v32) rfl hF (fun hb37 hF => ?_) (fun hb37 hF => ?_)
       ·refine CR (Ab rfl (Sn (WP_ret ?_)))
        replace hF := hG21 _ (F_some hF)
        with_reducible repeat first | apply Exit.sr | apply Exit.br | apply Exit.jr
        refine C_ret (fn := Tryz.f60) rfl (.tmp (v := .bool false) rfl .nil) ?_
        exact ⟨_, _, (.refl _), ok.wh, _, F_some hF, rfl, rfl⟩
       ·refine WP_skip (C_reg (mdl []) (Mi rfl (Mi rfl (S_bin rfl rfl (ev_add ..) (Ai rfl (Sn (ih23 (IntKind.wrap .i64 (a19 + x25.2)) _ hF ?_)))))))
        exact ⟨ok, WS.mk' (.k (.k .nil)) ok (.refl _)⟩
    ·refine WP_exit ?_
     simp only [Exit.sel, Exit.blk, Exit.jmp, if_true, if_false, reduceIte, Nat.reduceEqDiff, Nat.succ_ne_zero, Nat.zero_ne_one, Nat.one_ne_zero]
     replace hF := hG21 _ (F_some hF)
     exact ⟨(), hF, ok, WS.mk' .nil ok (.refl _)⟩
  ·rintro ⟨⟩ s' hF ⟨ok, hws⟩
   refine WP_ws hws ?_
   clear hws s'
   refine CR (Ab rfl (Sn (WP_ret ?_)))
   with_reducible repeat first | apply Exit.sr | apply Exit.br | apply Exit.jr
   refine C_ret (fn := Tryz.f60) rfl (.tmp (v := .bool true) rfl .nil) ?_
   exact ⟨_, _, (.refl _), ok.wh, _, F_some hF, rfl, rfl⟩
theorem Fa_Name_ok {β : Type} {f : Bool → Option β} {G : β → Prop} {R : D → Heap → Prop} {p0 : LB} (h : Heap) (hF : OptP ((Fa_Name p0).bind f) G) (hk : ∀ r, Fa_Name p0 = some r → OptP (f r) G → R (.bool r) h) : CallsA Tryz.prog 60 [.str p0] h R := by
 obtain ⟨r0, hr, hF⟩ := F_bind hF
 refine (Fa_Name_w (G := fun r => r = r0) p0 h ⟨r0, hr, rfl⟩).mono ?_
 rintro _ _ ⟨r, rfl, rfl, rfl⟩
 exact hk _ hr hF
theorem Fa_Split_w (p0 : LB) {G : LB × LB × Bool → Prop} (h : Heap) (hF : OptP (Fa_Split p0) G) : CallsA Tryz.prog 63 [.str p0] h fun d h' => ∃ r, G r ∧ d = .tup [.str r.1, .str r.2.1, .bool r.2.2] ∧ h' = h := by
 refine CallsA.ret (C_body Tryz.func63 rfl en_63 Tryz.ntmps63 rfl (fun ok => ?_))
 rw [Fa_Split] at hF
 refine CR (S_a (v := .str nB) rfl (S_a (v := .str nB) rfl (Ab rfl (Sn (C_seq (CR (Ms rfl (S_call (Fa_Name_ok _ hF fun x1 _ hF => (Sn ?_)) (.refl _)))))))))
 refine C_if (b := x1) rfl hF (fun hb2 hF => ?_) (fun hb2 hF => ?_)
 ·refine CR (Ms rfl (S_a (v := .str nB) rfl (S_a (v := .str _) rfl (Ab rfl (Sn (WP_ret ?_))))))
  with_reducible repeat first | apply Exit.sr | apply Exit.br | apply Exit.jr
  refine C_ret (fn := Tryz.f63) rfl (.tmp (v := .str nB) rfl (.tmp (v := .str p0) rfl (.tmp (v := .bool true) rfl .nil))) ?_
  exact ⟨_, _, (.refl _), ok.wh, _, F_some hF, rfl, rfl⟩
 ·refine WP_skip ?_
  refine C_join hF (fun (_ : Unit) s' => OK h [] ∧ WS s' ⟨mkSl 39 [], Hp h []⟩) (fun J19 hF => ?_) ?_
  ·refine CR (Ai rfl (Sn (WP_block ?_)))
   refine C_loop (σ := Int) hF (fun (a20 : Int) s' => OK h [] ∧ WS s' ⟨mkSl 39 [(0, .str p0), (5, .I a20)], Hp h []⟩) ?_ ?_
   ·exact ⟨ok, WS.mk' (.k (.k .nil)) ok (.refl _)⟩
   ·rintro G21 hG22 rec23 a20 s' ih24 hF ⟨ok, hws⟩
    refine WP_ws hws ?_
    clear hws s'
    rw [Fa_Split_l0] at hF
    refine C_seq (CR (Mi rfl (Ms rfl (S_lenS rfl ty_st_9 (S_bin rfl rfl (ev_lss ..) (Sn ?_))))))
    refine C_if (b := (decide (a20 < (p0.length : Int)))) rfl hF (fun hb25 hF => ?_) (fun hb25 hF => ?_)
    ·refine WP_skip (C_seq (WP_block (CR (Ms rfl (Mi rfl (S_ixS rfl rfl ty_st_9 hF (fun x26 _ hF => S_bin rfl rfl (ev_eql ..) (Mb rfl ?_))))))))
     refine S_twoJ 5 24 hF (fun J28 hb27 hF => ?_) (fun J28 hb27 hF => ?_) (fun v29 hF => ?_)
     ·refine Sx rfl rfl hb27 (Ms rfl (Sn (Sx rfl rfl hb27 (Mi rfl (Sn (Sx rfl rfl hb27 (S_slS rfl ty_st_9 bd_no (bd_at rfl) hF (fun x30 _ hF => Sn (Sx rfl rfl hb27 (S_call (Fa_Name_ok _ hF fun x31 _ hF => (Sn (S_pickT (v := .bool _) rfl hb27 rfl (Sn ?_)))) (.refl _)))))))))))
      refine ⟨_, hF, .hd (.refl _) ?_⟩
      repeat first | with_reducible exact .refl _ | refine .add ?_ rfl
     ·refine So rfl rfl hb27 (So rfl rfl hb27 (So rfl rfl hb27 (So rfl rfl hb27 (S_pickF (v := .bool _) rfl hb27 rfl (Sn ?_)))))
      refine ⟨_, hF, .hd (.refl _) ?_⟩
      repeat first | with_reducible exact .refl _ | refine .add ?_ rfl
     ·refine Mb rfl ?_
      refine S_twoJ 6 31 hF (fun J33 hb32 hF => ?_) (fun J33 hb32 hF => ?_) (fun v34 hF => ?_)
      ·refine Sx rfl rfl hb32 (Ms rfl (Sn (Sx rfl rfl hb32 (Mi rfl (Sn (Sx rfl rfl hb32 (S_bin rfl rfl (ev_add ..) (Sn (Sx rfl rfl hb32 (S_slS rfl ty_st_9 (bd_at rfl) bd_no hF (fun x35 _ hF => Sn (Sx rfl rfl hb32 (S_call (Fa_Name_ok _ hF fun x36 _ hF => (Sn (S_pickT (v := .bool _) rfl hb32 rfl (Sn ?_)))) (.refl _))))))))))))))
       refine ⟨_, hF, .hd (.refl _) ?_⟩
       repeat first | with_reducible exact .refl _ | refine .add ?_ rfl
      ·refine So rfl rfl hb32 (So rfl rfl hb32 (So rfl rfl hb32 (So rfl rfl hb32 (So rfl rfl hb32 (S_pickF (v := .bool _) rfl hb32 rfl (Sn ?_))))))
       refine ⟨_, hF, .hd (.refl _) ?_⟩
       repeat first | with_reducible exact .refl _ | refine .add ?_ rfl
      ·refine Sn ?_
       refine C_if (b := v34) rfl hF (fun hb37 hF => ?_) (fun hb37 hF => ?_)
       ·refine C_seq ?_
        refine C_drw (mdl []) (by kernel_rfl) (by kernel_rfl) ?_
        refine Ms rfl (Mi rfl (S_slS rfl ty_st_9 bd_no (bd_at rfl) hF (fun x38 _ hF => Ms rfl (Mi rfl (S_bin rfl rfl (ev_add ..) (S_slS rfl ty_st_9 (bd_at rfl) bd_no hF (fun x39 _ hF => S_a (v := .str _) rfl (S_a (v := .str _) rfl (Ab rfl (Sn (WP_ret ?_)))))))))))
        replace hF := hG22 _ (F_some hF)
        with_reducible repeat first | apply Exit.sr | apply Exit.br | apply Exit.jr
        refine C_ret (fn := Tryz.f63) rfl (.tmp (v := .str x38) rfl (.tmp (v := .str x39) rfl (.tmp (v := .bool true) rfl .nil))) ?_
        exact ⟨_, _, (.refl _), ok.wh, _, F_some hF, rfl, rfl⟩
       ·refine WP_skip (C_reg (mdl []) (Mi rfl (S_bin rfl rfl (ev_add ..) (Ai rfl (Sn (ih24 (IntKind.wrap .i64 (a20 + (1 : Int))) _ hF ?_))))))
        exact ⟨ok, WS.mk' (.k (.k .nil)) ok (.refl _)⟩
    ·refine WP_exit ?_
     simp only [Exit.sel, Exit.blk, Exit.jmp, if_true, if_false, reduceIte, Nat.reduceEqDiff, Nat.succ_ne_zero, Nat.zero_ne_one, Nat.one_ne_zero]
     replace hF := hG22 _ (F_some hF)
     exact ⟨(), hF, ok, WS.mk' .nil ok (.refl _)⟩
  ·rintro ⟨⟩ s' hF ⟨ok, hws⟩
   refine WP_ws hws ?_
   clear hws s'
   refine CR (S_a (v := .str nB) rfl (S_a (v := .str nB) rfl (Ab rfl (Sn (WP_ret ?_)))))
   with_reducible repeat first | apply Exit.sr | apply Exit.br | apply Exit.jr
   refine C_ret (fn := Tryz.f63) rfl (.tmp (v := .str nB) rfl (.tmp (v := .str nB) rfl (.tmp (v := .bool false) rfl .nil))) ?_
   exact ⟨_, _, (.refl _), ok.wh, _, F_some hF, rfl, rfl⟩
theorem Fa_Split_ok {β : Type} {f : LB × LB × Bool → Option β} {G : β → Prop} {R : D → Heap → Prop} {p0 : LB} (h : Heap) (hF : OptP ((Fa_Split p0).bind f) G) (hk : ∀ r, Fa_Split p0 = some r → OptP (f r) G → R (.tup [.str r.1, .str r.2.1, .bool r.2.2]) h) : CallsA Tryz.prog 63 [.str p0] h R := by
 obtain ⟨r0, hr, hF⟩ := F_bind hF
 refine (Fa_Split_w (G := fun r => r = r0) p0 h ⟨r0, hr, rfl⟩).mono ?_
 rintro _ _ ⟨r, rfl, rfl, rfl⟩
 exact hk _ hr hF
theorem Fc_written_w (p0 : LB) (p1 : Int) {G : LB × Int × Int → Prop} (h : Heap) (hF : OptP (Fc_written p0 p1) G) : CallsA Tryz.prog 39 [.str p0, .I p1] h fun d h' => ∃ r, G r ∧ d = .tup [.str r.1, .I r.2.1, .I r.2.2] ∧ h' = h := by
 refine CallsA.ret (C_body Tryz.func39 rfl en_39 Tryz.ntmps39 rfl (fun ok => ?_))
 rw [Fc_written] at hF
 refine CR (S_a (v := .str nB) rfl (Ai rfl (Ai rfl (Sn (CR (Mi rfl (Ai rfl (Sn ?_))))))))
 refine C_join hF (fun (a19 : Int) s' => OK h [] ∧ WS s' ⟨mkSl 76 [(0, .str p0), (1, .I p1), (7, .I a19)], Hp h []⟩) (fun J20 hF => ?_) ?_
 ·refine WP_block ?_
  refine C_loop (σ := Int) hF (fun (a21 : Int) s' => OK h [] ∧ WS s' ⟨mkSl 76 [(0, .str p0), (1, .I p1), (7, .I a21)], Hp h []⟩) ?_ ?_
  ·exact ⟨ok, WS.mk' (.k (.k (.k .nil))) ok (.refl _)⟩
  ·rintro G22 hG23 rec24 a21 s' ih25 hF ⟨ok, hws⟩
   refine WP_ws hws ?_
   clear hws s'
   rw [Fc_written_l0] at hF
   refine C_seq (CR (Mi rfl (Ms rfl (S_lenS rfl ty_st_9 (S_bin rfl rfl (ev_lss ..) (Sn ?_))))))
   refine C_if (b := (decide (a21 < (p0.length : Int)))) rfl hF (fun hb26 hF => ?_) (fun hb26 hF => ?_)
   ·refine WP_skip (WP_block (CR (Ms rfl (Mi rfl (Ms rfl (S_lenS rfl ty_st_9 (Mi rfl (S_bin rfl rfl (ev_add ..) (S_min rfl rfl (S_slS rfl ty_st_9 (bd_at rfl) (bd_at rfl) hF (fun x27 _ hF => S_byt0 rfl rfl ty_sl_22 ty_st_9 ty_ki_5 (S_call (Fa_Read_ok _ hF fun x28 _ hF => (S_m (v := .tup _) rfl (S_ext rfl rfl (S_ext rfl rfl (Ai rfl (Ai rfl (Sn (C_seq (CR (Mi rfl (S_bin rfl rfl (ev_eql ..) (Mb rfl ?_)))))))))))) (.refl _)))))))))))))
    refine S_twoJ 8 41 hF (fun J30 hb29 hF => ?_) (fun J30 hb29 hF => ?_) (fun v31 hF => ?_)
    ·refine So rfl rfl hb29 (So rfl rfl hb29 (So rfl rfl hb29 (S_off2 rfl rfl (S_offD (S_off2 rfl rfl (S_offD (S_off2 rfl rfl (S_offD (So rfl rfl hb29 (S_pickT (v := .bool _) rfl hb29 rfl (Sn ?_)))))))))))
     refine ⟨_, hF, .hd (.refl _) ?_⟩
     repeat first | with_reducible exact .refl _ | refine .add ?_ rfl
    ·refine Sx rfl rfl hb29 (Mi rfl (Sn (Sx rfl rfl hb29 (S_bin rfl rfl (ev_neq ..) (Sn (Sx rfl rfl hb29 (Mb rfl (Sn ?_))))))))
     refine S_twoJ 4 40 hF (fun J33 hb32 hF => ?_) (fun J33 hb32 hF => ?_) (fun v34 hF => ?_)
     ·refine Sx rfl rfl hb32 (Mi rfl (Sn (Sx rfl rfl hb32 (S_call (Fa_Part_ok _ hF fun x35 _ hF => (Sn (Sx rfl rfl hb32 (S_un rfl (ev_not _) (Sn (Sx rfl rfl hb29 (S_pickT (v := .bool _) rfl hb32 rfl (Sn (Sn ?_))))))))) (.refl _)))))
      refine ⟨_, hF, .hd (.refl _) ?_⟩
      repeat first | with_reducible exact .refl _ | refine .add ?_ rfl
     ·refine So rfl rfl hb32 (So rfl rfl hb32 (So rfl rfl hb32 (Sx rfl rfl hb29 (S_pickF (v := .bool _) rfl hb32 rfl (Sn (Sn ?_))))))
      refine ⟨_, hF, .hd (.refl _) ?_⟩
      repeat first | with_reducible exact .refl _ | refine .add ?_ rfl
     ·refine S_pickF (v := .bool _) rfl hb29 rfl (Sn ?_)
      refine ⟨_, hF, .hd (.refl _) ?_⟩
      repeat first | with_reducible exact .refl _ | refine .add ?_ rfl
    ·refine Sn ?_
     refine C_if (b := v31) rfl hF (fun hb36 hF => ?_) (fun hb36 hF => ?_)
     ·refine WP_exit ?_
      simp only [Exit.sel, Exit.blk, Exit.jmp, if_true, if_false, reduceIte, Nat.reduceEqDiff, Nat.succ_ne_zero, Nat.zero_ne_one, Nat.one_ne_zero]
      replace hF := hG23 _ (F_some hF)
      exact ⟨a21, hF, ok, WS.mk' (.k (.k (.k .nil))) ok (.refl _)⟩
     ·refine WP_skip (C_seq (CR (Mi rfl (Mi rfl (S_bin rfl rfl (ev_eql ..) (Mb rfl ?_))))))
      refine S_two (b := (a21 == p1)) 3 48 (.bool ((a21 == p1) && (x28.1 != (58 : Int)))) (fun hb37 => ?_) (fun hb37 => ?_) ?_
      ·refine Sx rfl rfl hb37 (Mi rfl (Sn (Sx rfl rfl hb37 (S_bin rfl rfl (ev_neq ..) (Sn (S_pickT (v := .bool _) rfl hb37 rfl (Sn (.hd (and_t hb37) ?_))))))))
       repeat first | with_reducible exact .refl _ | refine .add ?_ rfl
      ·refine So rfl rfl hb37 (So rfl rfl hb37 (S_pickF (v := .bool _) rfl hb37 rfl (Sn (.hd (and_f hb37) ?_))))
       repeat first | with_reducible exact .refl _ | refine .add ?_ rfl
      refine Mb rfl ?_
      refine S_twoJ 4 53 hF (fun J39 hb38 hF => ?_) (fun J39 hb38 hF => ?_) (fun v40 hF => ?_)
      ·refine Sx rfl rfl hb38 (Mi rfl (Sn (Sx rfl rfl hb38 (S_call (Fa_Start_ok _ hF fun x41 _ hF => (Sn (Sx rfl rfl hb38 (S_un rfl (ev_not _) (Sn (S_pickT (v := .bool _) rfl hb38 rfl (Sn ?_))))))) (.refl _)))))
       refine ⟨_, hF, .hd (.refl _) ?_⟩
       repeat first | with_reducible exact .refl _ | refine .add ?_ rfl
      ·refine So rfl rfl hb38 (So rfl rfl hb38 (So rfl rfl hb38 (S_pickF (v := .bool _) rfl hb38 rfl (Sn ?_))))
       refine ⟨_, hF, .hd (.refl _) ?_⟩
       repeat first | with_reducible exact .refl _ | refine .add ?_ rfl
      ·refine Sn ?_
       refine C_if (b := v40) rfl hF (fun hb42 hF => ?_) (fun hb42 hF => ?_)
       ·refine CR (S_a (v := .str nB) rfl (Ai rfl (Ai rfl (Sn (WP_ret ?_)))))
        replace hF := hG23 _ (F_some hF)
        with_reducible repeat first | apply Exit.sr | apply Exit.br | apply Exit.jr
        refine C_ret (fn := Tryz.f39) rfl (.tmp (v := .str nB) rfl (.tmp (v := .I 0) rfl (.tmp (v := .I 23) rfl .nil))) ?_
        exact ⟨_, _, (.refl _), ok.wh, _, F_some hF, rfl, rfl⟩
       ·refine WP_skip (C_reg (mdl []) (Mi rfl (Mi rfl (S_bin rfl rfl (ev_add ..) (Ai rfl (Sn (ih25 (IntKind.wrap .i64 (a21 + x28.2)) _ hF ?_)))))))
        exact ⟨ok, WS.mk' (.k (.k (.k .nil))) ok (.refl _)⟩
   ·refine WP_exit ?_
    simp only [Exit.sel, Exit.blk, Exit.jmp, if_true, if_false, reduceIte, Nat.reduceEqDiff, Nat.succ_ne_zero, Nat.zero_ne_one, Nat.one_ne_zero]
    replace hF := hG23 _ (F_some hF)
    exact ⟨a21, hF, ok, WS.mk' (.k (.k (.k .nil))) ok (.refl _)⟩
 ·rintro a19 s' hF ⟨ok, hws⟩
  refine WP_ws hws ?_
  clear hws s'
  refine C_seq (CR (Mi rfl (Mi rfl (S_bin rfl rfl (ev_eql ..) (Sn ?_)))))
  refine C_if (b := (a19 == p1)) rfl hF (fun hb43 hF => ?_) (fun hb43 hF => ?_)
  ·refine CR (S_a (v := .str nB) rfl (Ai rfl (Ai rfl (Sn (WP_ret ?_)))))
   with_reducible repeat first | apply Exit.sr | apply Exit.br | apply Exit.jr
   refine C_ret (fn := Tryz.f39) rfl (.tmp (v := .str nB) rfl (.tmp (v := .I 0) rfl (.tmp (v := .I 23) rfl .nil))) ?_
   exact ⟨_, _, (.refl _), ok.wh, _, F_some hF, rfl, rfl⟩
  ·refine WP_skip (CR (Ms rfl (Mi rfl (Mi rfl (S_slS rfl ty_st_9 (bd_at rfl) (bd_at rfl) hF (fun x44 _ hF => S_call (Fa_Split_ok _ hF fun x45 _ hF => (S_m (v := .tup _) rfl (S_ext rfl rfl (S_ext rfl rfl (S_ext rfl rfl (S_a (v := .str _) rfl (S_a (v := .str _) rfl (Ab rfl (Sn (C_seq (CR (Mb rfl (S_un rfl (ev_not _) (Sn ?_)))))))))))))) (.refl _)))))))
   refine C_if (b := (!x45.2.2)) rfl hF (fun hb46 hF => ?_) (fun hb46 hF => ?_)
   ·refine CR (S_a (v := .str nB) rfl (Ai rfl (Ai rfl (Sn (WP_ret ?_)))))
    with_reducible repeat first | apply Exit.sr | apply Exit.br | apply Exit.jr
    refine C_ret (fn := Tryz.f39) rfl (.tmp (v := .str nB) rfl (.tmp (v := .I 0) rfl (.tmp (v := .I 24) rfl .nil))) ?_
    exact ⟨_, _, (.refl _), ok.wh, _, F_some hF, rfl, rfl⟩
   ·refine WP_skip (CR (Ms rfl (Mi rfl (Mi rfl (S_slS rfl ty_st_9 (bd_at rfl) (bd_at rfl) hF (fun x47 _ hF => Mi rfl (S_a (v := .str _) rfl (Ai rfl (Ai rfl (Sn (WP_ret ?_)))))))))))
    with_reducible repeat first | apply Exit.sr | apply Exit.br | apply Exit.jr
    refine C_ret (fn := Tryz.f39) rfl (.tmp (v := .str x47) rfl (.tmp (v := .I a19) rfl (.tmp (v := .I 0) rfl .nil))) ?_
    exact ⟨_, _, (.refl _), ok.wh, _, F_some hF, rfl, rfl⟩
theorem Fc_written_ok {β : Type} {f : LB × Int × Int → Option β} {G : β → Prop} {R : D → Heap → Prop} {p0 : LB} {p1 : Int} (h : Heap) (hF : OptP ((Fc_written p0 p1).bind f) G) (hk : ∀ r, Fc_written p0 p1 = some r → OptP (f r) G → R (.tup [.str r.1, .I r.2.1, .I r.2.2]) h) : CallsA Tryz.prog 39 [.str p0, .I p1] h R := by
 obtain ⟨r0, hr, hF⟩ := F_bind hF
 refine (Fc_written_w (G := fun r => r = r0) p0 p1 h ⟨r0, hr, rfl⟩).mono ?_
 rintro _ _ ⟨r, rfl, rfl, rfl⟩
 exact hk _ hr hF
theorem Fc_instruction_w (p0 : LB) (p1 : Int) {G : TR × Int × Int → Prop} (h : Heap) (hF : OptP (Fc_instruction p0 p1) G) : CallsA Tryz.prog 38 [.str p0, .I p1] h fun d h' => ∃ r, G r ∧ d = .tup [.agg (cTR r.1), .I r.2.1, .I r.2.2] ∧ h' = h := by
 refine CallsA.ret (C_body Tryz.func38 rfl en_38 Tryz.ntmps38 rfl (fun ok => ?_))
 rw [Fc_instruction] at hF
 refine C_seq (C_reg (mdl [(4, 1)]) (S_all1 ok rfl ty_zc_37 ?_))
 intro i1 hi1 ok
 refine Ai rfl (Ai rfl (Sn (CR (Ms rfl (Mi rfl (S_call (Fc_written_ok _ hF fun x2 _ hF => (S_m (v := .tup _) rfl (S_ext rfl rfl (S_ext rfl rfl (S_ext rfl rfl (S_a (v := .str _) rfl (Ai rfl (Ai rfl (Sn (C_seq (CR (Mi rfl (S_bin rfl rfl (ev_neq ..) (Sn ?_)))))))))))))) (.refl _)))))))
 refine C_if (b := (x2.2.2 != (0 : Int))) rfl hF (fun hb3 hF => ?_) (fun hb3 hF => ?_)
 ·refine CR (S_bld (v := .agg [.I 0, .I 0, .str nB, .snil, .str nB, .I 0]) (b_st ty_zc_37 ty_pl_37 rfl) (S_one 21 (v := .agg (cTR tZ)) (.aggC (.cons (.refl _) (.cons (.refl _) (.cons (.refl _) (.cons (.nil _) (.refl _)))))) (Mi rfl (S_st (j := 0) (cs' := [.I tZ.Kind, .I tZ.At, .str tZ.Name, .sl 2 (List.map cP tZ.Pairs) 0, .str tZ.Text, .I tZ.Refs]) ok rfl rfl rfl hi1 rfl ty_sz_37 rfl rfl (fun ok => Ai rfl (Ai rfl (Sn (WP_ret ?_))))))))
  with_reducible repeat first | apply Exit.sr | apply Exit.br | apply Exit.jr
  refine C_ret (fn := Tryz.f38) rfl (.cell rfl (ld_ptr (j := 0) ok rfl hi1 (p_agg (vs := [.I tZ.Kind, .I tZ.At, .str tZ.Name, .sl 2 (List.map cP tZ.Pairs) 0, .str tZ.Text, .I tZ.Refs]) ty_ag_37 ty_sz_37 rfl rfl)) (.tmp (v := .I 0) rfl (.tmp (v := .I x2.2.2) rfl .nil))) ?_
  exact ⟨_, _, (.refl _), ok.wh, _, F_some hF, rfl, rfl⟩
 ·refine WP_skip (C_seq (CR (Ms rfl (S_call (Fa_Name_ok _ hF fun x4 _ hF => (S_un rfl (ev_not _) (Sn ?_))) (.refl _)))))
  refine C_if (b := (!x4)) rfl hF (fun hb5 hF => ?_) (fun hb5 hF => ?_)
  ·refine CR (S_bld (v := .agg [.I 0, .I 0, .str nB, .snil, .str nB, .I 0]) (b_st ty_zc_37 ty_pl_37 rfl) (S_one 26 (v := .agg (cTR tZ)) (.aggC (.cons (.refl _) (.cons (.refl _) (.cons (.refl _) (.cons (.nil _) (.refl _)))))) (S_st (j := 0) (cs' := [.I tZ.Kind, .I tZ.At, .str tZ.Name, .sl 2 (List.map cP tZ.Pairs) 0, .str tZ.Text, .I tZ.Refs]) ok rfl rfl rfl hi1 rfl ty_sz_37 rfl rfl (fun ok => Ai rfl (Ai rfl (Sn (WP_ret ?_)))))))
   with_reducible repeat first | apply Exit.sr | apply Exit.br | apply Exit.jr
   refine C_ret (fn := Tryz.f38) rfl (.cell rfl (ld_ptr (j := 0) ok rfl hi1 (p_agg (vs := [.I tZ.Kind, .I tZ.At, .str tZ.Name, .sl 2 (List.map cP tZ.Pairs) 0, .str tZ.Text, .I tZ.Refs]) ty_ag_37 ty_sz_37 rfl rfl)) (.tmp (v := .I 0) rfl (.tmp (v := .I 24) rfl .nil))) ?_
   exact ⟨_, _, (.refl _), ok.wh, _, F_some hF, rfl, rfl⟩
  ·refine WP_skip (C_seq (CR (Ms rfl (S_call (Fc_small_ok _ hF fun x6 _ hF => (S_bin rfl rfl e_seql (Sn ?_))) (.refl _)))))
   refine C_if (b := (x6 == ([120, 109, 108] : LB))) rfl hF (fun hb7 hF => ?_) (fun hb7 hF => ?_)
   ·refine CR (S_bld (v := .agg [.I 0, .I 0, .str nB, .snil, .str nB, .I 0]) (b_st ty_zc_37 ty_pl_37 rfl) (S_one 30 (v := .agg (cTR tZ)) (.aggC (.cons (.refl _) (.cons (.refl _) (.cons (.refl _) (.cons (.nil _) (.refl _)))))) (S_st (j := 0) (cs' := [.I tZ.Kind, .I tZ.At, .str tZ.Name, .sl 2 (List.map cP tZ.Pairs) 0, .str tZ.Text, .I tZ.Refs]) ok rfl rfl rfl hi1 rfl ty_sz_37 rfl rfl (fun ok => Ai rfl (Ai rfl (Sn (WP_ret ?_)))))))
    with_reducible repeat first | apply Exit.sr | apply Exit.br | apply Exit.jr
    refine C_ret (fn := Tryz.f38) rfl (.cell rfl (ld_ptr (j := 0) ok rfl hi1 (p_agg (vs := [.I tZ.Kind, .I tZ.At, .str tZ.Name, .sl 2 (List.map cP tZ.Pairs) 0, .str tZ.Text, .I tZ.Refs]) ty_ag_37 ty_sz_37 rfl rfl)) (.tmp (v := .I 0) rfl (.tmp (v := .I 29) rfl .nil))) ?_
    exact ⟨_, _, (.refl _), ok.wh, _, F_some hF, rfl, rfl⟩
   ·refine WP_skip (C_seq (CR (Ms rfl (Mi rfl (S_call (Fc_Stands_ok _ hF fun x8 _ hF => (Sn ?_)) (.refl _))))))
    refine C_if (b := x8) rfl hF (fun hb9 hF => ?_) (fun hb9 hF => ?_)
    ·refine CR (Ms rfl (S_bld (v := .agg [.I 8, .I 0, .str x2.1, .snil, .str nB, .I 0]) (b_st ty_zc_37 ty_pl_37 rfl) (S_one 35 (v := .agg (cTR (⟨(8 : Int), (0 : Int), x2.1, nP, nB, (0 : Int)⟩ : TR))) (.aggC (.cons (.refl _) (.cons (.refl _) (.cons (.refl _) (.cons (.nil _) (.refl _)))))) (Mi rfl (S_bin rfl rfl (ev_add ..) (S_st (j := 0) (cs' := [.I (⟨(8 : Int), (0 : Int), x2.1, nP, nB, (0 : Int)⟩ : TR).Kind, .I (⟨(8 : Int), (0 : Int), x2.1, nP, nB, (0 : Int)⟩ : TR).At, .str (⟨(8 : Int), (0 : Int), x2.1, nP, nB, (0 : Int)⟩ : TR).Name, .sl 2 (List.map cP (⟨(8 : Int), (0 : Int), x2.1, nP, nB, (0 : Int)⟩ : TR).Pairs) 0, .str (⟨(8 : Int), (0 : Int), x2.1, nP, nB, (0 : Int)⟩ : TR).Text, .I (⟨(8 : Int), (0 : Int), x2.1, nP, nB, (0 : Int)⟩ : TR).Refs]) ok rfl rfl rfl hi1 rfl ty_sz_37 rfl rfl (fun ok => Ai rfl (Ai rfl (Sn (WP_ret ?_))))))))))
     with_reducible repeat first | apply Exit.sr | apply Exit.br | apply Exit.jr
     refine C_ret (fn := Tryz.f38) rfl (.cell rfl (ld_ptr (j := 0) ok rfl hi1 (p_agg (vs := [.I (⟨(8 : Int), (0 : Int), x2.1, nP, nB, (0 : Int)⟩ : TR).Kind, .I (⟨(8 : Int), (0 : Int), x2.1, nP, nB, (0 : Int)⟩ : TR).At, .str (⟨(8 : Int), (0 : Int), x2.1, nP, nB, (0 : Int)⟩ : TR).Name, .sl 2 (List.map cP (⟨(8 : Int), (0 : Int), x2.1, nP, nB, (0 : Int)⟩ : TR).Pairs) 0, .str (⟨(8 : Int), (0 : Int), x2.1, nP, nB, (0 : Int)⟩ : TR).Text, .I (⟨(8 : Int), (0 : Int), x2.1, nP, nB, (0 : Int)⟩ : TR).Refs]) ty_ag_37 ty_sz_37 rfl rfl)) (.tmp (v := .I (IntKind.wrap .i64 (x2.2.1 + (2 : Int)))) rfl (.tmp (v := .I 0) rfl .nil))) ?_
     exact ⟨_, _, (.refl _), ok.wh, _, F_some hF, rfl, rfl⟩
    ·refine WP_skip (CR (Ms rfl (Mi rfl (S_call (Fc_White_ok _ hF fun x10 _ hF => (Ai rfl (Sn (CR (Ms rfl (Mi rfl (S_call (Fc_Find_ok _ hF fun x11 _ hF => (Ai rfl (Sn (C_seq (CR (Mi rfl (Mi rfl (S_bin rfl rfl (ev_eql ..) (Mb rfl ?_))))))))) (.refl _)))))))) (.refl _)))))
     refine S_two (b := (x10 == x2.2.1)) 3 50 (.bool ((x10 == x2.2.1) || (decide (x11 < (0 : Int))))) (fun hb12 => ?_) (fun hb12 => ?_) ?_
     ·refine So rfl rfl hb12 (So rfl rfl hb12 (S_pickT (v := .bool _) rfl hb12 rfl (Sn (.hd (or_t hb12) ?_))))
      repeat first | with_reducible exact .refl _ | refine .add ?_ rfl
     ·refine Sx rfl rfl hb12 (Mi rfl (Sn (Sx rfl rfl hb12 (S_bin rfl rfl (ev_lss ..) (Sn (S_pickF (v := .bool _) rfl hb12 rfl (Sn (.hd (or_f hb12) ?_))))))))
      repeat first | with_reducible exact .refl _ | refine .add ?_ rfl
     refine Sn ?_
     refine C_if (b := ((x10 == x2.2.1) || (decide (x11 < (0 : Int))))) rfl hF (fun hb13 hF => ?_) (fun hb13 hF => ?_)
     ·refine CR (S_bld (v := .agg [.I 0, .I 0, .str nB, .snil, .str nB, .I 0]) (b_st ty_zc_37 ty_pl_37 rfl) (S_one 51 (v := .agg (cTR tZ)) (.aggC (.cons (.refl _) (.cons (.refl _) (.cons (.refl _) (.cons (.nil _) (.refl _)))))) (S_st (j := 0) (cs' := [.I tZ.Kind, .I tZ.At, .str tZ.Name, .sl 2 (List.map cP tZ.Pairs) 0, .str tZ.Text, .I tZ.Refs]) ok rfl rfl rfl hi1 rfl ty_sz_37 rfl rfl (fun ok => Ai rfl (Ai rfl (Sn (WP_ret ?_)))))))
      with_reducible repeat first | apply Exit.sr | apply Exit.br | apply Exit.jr
      refine C_ret (fn := Tryz.f38) rfl (.cell rfl (ld_ptr (j := 0) ok rfl hi1 (p_agg (vs := [.I tZ.Kind, .I tZ.At, .str tZ.Name, .sl 2 (List.map cP tZ.Pairs) 0, .str tZ.Text, .I tZ.Refs]) ty_ag_37 ty_sz_37 rfl rfl)) (.tmp (v := .I 0) rfl (.tmp (v := .I 23) rfl .nil))) ?_
      exact ⟨_, _, (.refl _), ok.wh, _, F_some hF, rfl, rfl⟩
     ·refine WP_skip (CR (Ms rfl (Ms rfl (Mi rfl (Mi rfl (S_slS rfl ty_st_9 (bd_at rfl) (bd_at rfl) hF (fun x14 _ hF => S_bld (v := .agg [.I 8, .I 0, .str x2.1, .snil, .str x14, .I 0]) (b_st ty_zc_37 ty_pl_37 rfl) (S_one 57 (v := .agg (cTR (⟨(8 : Int), (0 : Int), x2.1, nP, x14, (0 : Int)⟩ : TR))) (.aggC (.cons (.refl _) (.cons (.refl _) (.cons (.refl _) (.cons (.nil _) (.refl _)))))) (Mi rfl (S_bin rfl rfl (ev_add ..) (S_st (j := 0) (cs' := [.I (⟨(8 : Int), (0 : Int), x2.1, nP, x14, (0 : Int)⟩ : TR).Kind, .I (⟨(8 : Int), (0 : Int), x2.1, nP, x14, (0 : Int)⟩ : TR).At, .str (⟨(8 : Int), (0 : Int), x2.1, nP, x14, (0 : Int)⟩ : TR).Name, .sl 2 (List.map cP (⟨(8 : Int), (0 : Int), x2.1, nP, x14, (0 : Int)⟩ : TR).Pairs) 0, .str (⟨(8 : Int), (0 : Int), x2.1, nP, x14, (0 : Int)⟩ : TR).Text, .I (⟨(8 : Int), (0 : Int), x2.1, nP, x14, (0 : Int)⟩ : TR).Refs]) ok rfl rfl rfl hi1 rfl ty_sz_37 rfl rfl (fun ok => Ai rfl (Ai rfl (Sn (WP_ret ?_)))))))))))))))
      with_reducible repeat first | apply Exit.sr | apply Exit.br | apply Exit.jr
      refine C_ret (fn := Tryz.f38) rfl (.cell rfl (ld_ptr (j := 0) ok rfl hi1 (p_agg (vs := [.I (⟨(8 : Int), (0 : Int), x2.1, nP, x14, (0 : Int)⟩ : TR).Kind, .I (⟨(8 : Int), (0 : Int), x2.1, nP, x14, (0 : Int)⟩ : TR).At, .str (⟨(8 : Int), (0 : Int), x2.1, nP, x14, (0 : Int)⟩ : TR).Name, .sl 2 (List.map cP (⟨(8 : Int), (0 : Int), x2.1, nP, x14, (0 : Int)⟩ : TR).Pairs) 0, .str (⟨(8 : Int), (0 : Int), x2.1, nP, x14, (0 : Int)⟩ : TR).Text, .I (⟨(8 : Int), (0 : Int), x2.1, nP, x14, (0 : Int)⟩ : TR).Refs]) ty_ag_37 ty_sz_37 rfl rfl)) (.tmp (v := .I (IntKind.wrap .i64 (x11 + (2 : Int)))) rfl (.tmp (v := .I 0) rfl .nil))) ?_
      exact ⟨_, _, (.refl _), ok.wh, _, F_some hF, rfl, rfl⟩
theorem Fc_instruction_ok {β : Type} {f : TR × Int × Int → Option β} {G : β → Prop} {R : D → Heap → Prop} {p0 : LB} {p1 : Int} (h : Heap) (hF : OptP ((Fc_instruction p0 p1).bind f) G) (hk : ∀ r, Fc_instruction p0 p1 = some r → OptP (f r) G → R (.tup [.agg (cTR r.1), .I r.2.1, .I r.2.2]) h) : CallsA Tryz.prog 38 [.str p0, .I p1] h R := by
 obtain ⟨r0, hr, hF⟩ := F_bind hF
 refine (Fc_instruction_w (G := fun r => r = r0) p0 p1 h ⟨r0, hr, rfl⟩).mono ?_
 rintro _ _ ⟨r, rfl, rfl, rfl⟩
 exact hk _ hr hF
theorem Fb_word_w (p0 : LB) (p1 : Int) {G : Int × Int → Prop} (h : Heap) (hF : OptP (Fb_word p0 p1) G) : CallsA Tryz.prog 86 [.sl 1 (List.map c_u8 p0) 0, .I p1] h fun d h' => ∃ r, G r ∧ d = .tup [.I r.1, .I r.2] ∧ h' = h := by
 refine CallsA.ret (C_body Tryz.func86 rfl en_86 Tryz.ntmps86 rfl (fun ok => ?_))
 rw [Fb_word] at hF
 refine CR (Ai rfl (Ai rfl (Sn ?_)))
 refine C_join hF (fun (_ : Unit) s' => OK h [] ∧ WS s' ⟨mkSl 41 [], Hp h []⟩) (fun J10 hF => ?_) ?_
 ·refine CR (Ai rfl (Sn (WP_block ?_)))
  refine C_loop (σ := Int) hF (fun (a11 : Int) s' => OK h [] ∧ WS s' ⟨mkSl 41 [(0, .sl 1 (List.map c_u8 p0) 0), (1, .I p1), (6, .I a11)], Hp h []⟩) ?_ ?_
  ·exact ⟨ok, WS.mk' (.k (.k (.k .nil))) ok (.refl _)⟩
  ·rintro G12 hG13 rec14 a11 s' ih15 hF ⟨ok, hws⟩
   refine WP_ws hws ?_
   clear hws s'
   rw [Fb_word_l0] at hF
   refine C_seq (CR (Mi rfl (S_bin rfl rfl (ev_lss ..) (Sn ?_))))
   refine C_if (b := (decide (a11 < (5 : Int)))) rfl hF (fun hb16 hF => ?_) (fun hb16 hF => ?_)
   ·refine WP_skip (C_seq (WP_block (CR (S_bld (v := .agg (List.map D.str ([([108, 116, 59] : LB), ([103, 116, 59] : LB), ([97, 109, 112, 59] : LB), ([97, 112, 111, 115, 59] : LB), ([113, 117, 111, 116, 59] : LB)] : List LB))) (b_arr ty_zc_137 ty_pl_137 ty_ar_137 ty_sz_9 rfl) (Mi rfl (S_ixN (g := D.str) rfl rfl ty_ar_137 ty_sz_9 ty_ag_9 hF (fun x17 _ hF => S_a (v := .str _) rfl (Sn (CR (Mi rfl (Ms rfl (S_lenS rfl ty_st_9 (S_bin rfl rfl (ev_add ..) (Ml rfl (S_lenL rfl ty_sl_22 (S_bin rfl rfl (ev_leq ..) (Mb rfl ?_)))))))))))))))))
    refine S_twoJ 11 33 hF (fun J19 hb18 hF => ?_) (fun J19 hb18 hF => ?_) (fun v20 hF => ?_)
    ·refine Sx rfl rfl hb18 (Ml rfl (Sn (Sx rfl rfl hb18 (Mi rfl (Sn (Sx rfl rfl hb18 (Mi rfl (Sn (Sx rfl rfl hb18 (Ms rfl (Sn (Sx rfl rfl hb18 (S_lenS rfl ty_st_9 (Sn (Sx rfl rfl hb18 (S_bin rfl rfl (ev_add ..) (Sn (Sx rfl rfl hb18 (S_slL rfl ty_sl_22 ty_sz_5 (bd_at rfl) (bd_at rfl) hF (fun x21 _ hF => Sn (Sx rfl rfl hb18 (S_conv rfl (e_cbs ty_sl_22 ty_ki_5 ty_st_9) (Sn (Sx rfl rfl hb18 (Ms rfl (Sn (Sx rfl rfl hb18 (S_bin rfl rfl e_seql (Sn ?_)))))))))))))))))))))))))))))
     refine S_pickT (v := .bool _) rfl hb18 rfl (Sn ?_)
     refine ⟨_, hF, .hd (.refl _) ?_⟩
     repeat first | with_reducible exact .refl _ | refine .add ?_ rfl
    ·refine So rfl rfl hb18 (So rfl rfl hb18 (So rfl rfl hb18 (So rfl rfl hb18 (So rfl rfl hb18 (So rfl rfl hb18 (So rfl rfl hb18 (So rfl rfl hb18 (So rfl rfl hb18 (So rfl rfl hb18 (S_pickF (v := .bool _) rfl hb18 rfl (Sn ?_)))))))))))
     refine ⟨_, hF, .hd (.refl _) ?_⟩
     repeat first | with_reducible exact .refl _ | refine .add ?_ rfl
    ·refine Sn ?_
     refine C_if (b := v20) rfl hF (fun hb22 hF => ?_) (fun hb22 hF => ?_)
     ·refine CR (S_bld (v := .agg (List.map (D.int .i64) ([(60 : Int), (62 : Int), (38 : Int), (39 : Int), (34 : Int)] : List Int))) (b_arr ty_zc_138 ty_pl_138 ty_ar_138 ty_sz_3 rfl) (Mi rfl (S_ixN (g := (D.int .i64)) rfl rfl ty_ar_138 ty_sz_3 ty_ag_3 hF (fun x23 _ hF => Mi rfl (Ms rfl (S_lenS rfl ty_st_9 (S_bin rfl rfl (ev_add ..) (Ai rfl (Ai rfl (Sn (WP_ret ?_)))))))))))
      replace hF := hG13 _ (F_some hF)
      with_reducible repeat first | apply Exit.sr | apply Exit.br | apply Exit.jr
      refine C_ret (fn := Tryz.f86) rfl (.tmp (v := .I x23) rfl (.tmp (v := .I (IntKind.wrap .i64 (p1 + (x17.length : Int)))) rfl .nil)) ?_
      exact ⟨_, _, (.refl _), ok.wh, _, F_some hF, rfl, rfl⟩
     ·refine WP_skip (C_reg (mdl []) (Mi rfl (S_bin rfl rfl (ev_add ..) (Ai rfl (Sn (ih15 (IntKind.wrap .i64 (a11 + (1 : Int))) _ hF ?_))))))
      exact ⟨ok, WS.mk' (.k (.k (.k .nil))) ok (.refl _)⟩
   ·refine WP_exit ?_
    simp only [Exit.sel, Exit.blk, Exit.jmp, if_true, if_false, reduceIte, Nat.reduceEqDiff, Nat.succ_ne_zero, Nat.zero_ne_one, Nat.one_ne_zero]
    replace hF := hG13 _ (F_some hF)
    exact ⟨(), hF, ok, WS.mk' .nil ok (.refl _)⟩
 ·rintro ⟨⟩ s' hF ⟨ok, hws⟩
  refine WP_ws hws ?_
  clear hws s'
  refine CR (Ai rfl (Ai rfl (Sn (WP_ret ?_))))
  with_reducible repeat first | apply Exit.sr | apply Exit.br | apply Exit.jr
  refine C_ret (fn := Tryz.f86) rfl (.tmp (v := .I 0) rfl (.tmp (v := .I 0) rfl .nil)) ?_
  exact ⟨_, _, (.refl _), ok.wh, _, F_some hF, rfl, rfl⟩
theorem Fb_word_ok {β : Type} {f : Int × Int → Option β} {G : β → Prop} {R : D → Heap → Prop} {p0 : LB} {p1 : Int} (h : Heap) (hF : OptP ((Fb_word p0 p1).bind f) G) (hk : ∀ r, Fb_word p0 p1 = some r → OptP (f r) G → R (.tup [.I r.1, .I r.2]) h) : CallsA Tryz.prog 86 [.sl 1 (List.map c_u8 p0) 0, .I p1] h R := by
 obtain ⟨r0, hr, hF⟩ := F_bind hF
 refine (Fb_word_w (G := fun r => r = r0) p0 p1 h ⟨r0, hr, rfl⟩).mono ?_
 rintro _ _ ⟨r, rfl, rfl, rfl⟩
 exact hk _ hr hF
end Go.Proofs.YtfokkdofcekdbaaGreatDoor
