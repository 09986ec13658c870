/- The walks. No condition. -/
import Derived.Test.YtfokkdofcekdbaaGreatDoorWk3
set_option linter.unusedVariables false
set_option linter.unusedSimpArgs false
set_option maxRecDepth 20000
set_option maxHeartbeats 8000000
namespace Go.Proofs.YtfokkdofcekdbaaGreatDoor
theorem Fb_hex_w (p0 : Int) {G : Int → Prop} (h : Heap) (hF : OptP (Fb_hex p0) G) : CallsA Tryz.prog 87 [.int .u8 p0] h fun d h' => ∃ r, G r ∧ d = .I r ∧ h' = h := by
 refine CallsA.ret (C_body Tryz.func87 rfl en_87 Tryz.ntmps87 rfl (fun ok => ?_))
 rw [Fb_hex] at hF
 refine CR (Ai rfl (Sn (C_seq (CR (Mi rfl (S_bin rfl rfl (ev_geq ..) (Mb rfl ?_)))))))
 refine S_two (b := (decide ((48 : Int) ≤ p0))) 3 8 (.bool ((decide ((48 : Int) ≤ p0)) && (decide (p0 ≤ (57 : Int))))) (fun hb1 => ?_) (fun hb1 => ?_) ?_
 ·refine Sx rfl rfl hb1 (Mi rfl (Sn (Sx rfl rfl hb1 (S_bin rfl rfl (ev_leq ..) (Sn (S_pickT (v := .bool _) rfl hb1 rfl (Sn (.hd (and_t hb1) ?_))))))))
  repeat first | with_reducible exact .refl _ | refine .add ?_ rfl
 ·refine So rfl rfl hb1 (So rfl rfl hb1 (S_pickF (v := .bool _) rfl hb1 rfl (Sn (.hd (and_f hb1) ?_))))
  repeat first | with_reducible exact .refl _ | refine .add ?_ rfl
 refine Sn ?_
 refine C_if (b := ((decide ((48 : Int) ≤ p0)) && (decide (p0 ≤ (57 : Int))))) rfl hF (fun hb2 hF => ?_) (fun hb2 hF => ?_)
 ·refine CR (Mi rfl (S_conv rfl (e_ci ty_ki_3 ty_un_5) (S_bin rfl rfl (ev_sub ..) (Ai rfl (Sn (WP_ret ?_))))))
  with_reducible repeat first | apply Exit.sr | apply Exit.br | apply Exit.jr
  refine C_ret (fn := Tryz.f87) rfl (.tmp (v := .I (IntKind.wrap .i64 ((IntKind.wrap .i64 p0) - (48 : Int)))) rfl .nil) ?_
  exact ⟨_, _, (.refl _), ok.wh, _, F_some hF, rfl, rfl⟩
 ·refine WP_skip (C_seq (CR (Mi rfl (S_bin rfl rfl (ev_geq ..) (Mb rfl ?_)))))
  refine S_two (b := (decide ((97 : Int) ≤ p0))) 3 17 (.bool ((decide ((97 : Int) ≤ p0)) && (decide (p0 ≤ (102 : Int))))) (fun hb3 => ?_) (fun hb3 => ?_) ?_
  ·refine Sx rfl rfl hb3 (Mi rfl (Sn (Sx rfl rfl hb3 (S_bin rfl rfl (ev_leq ..) (Sn (S_pickT (v := .bool _) rfl hb3 rfl (Sn (.hd (and_t hb3) ?_))))))))
   repeat first | with_reducible exact .refl _ | refine .add ?_ rfl
  ·refine So rfl rfl hb3 (So rfl rfl hb3 (S_pickF (v := .bool _) rfl hb3 rfl (Sn (.hd (and_f hb3) ?_))))
   repeat first | with_reducible exact .refl _ | refine .add ?_ rfl
  refine Sn ?_
  refine C_if (b := ((decide ((97 : Int) ≤ p0)) && (decide (p0 ≤ (102 : Int))))) rfl hF (fun hb4 hF => ?_) (fun hb4 hF => ?_)
  ·refine CR (Mi rfl (S_conv rfl (e_ci ty_ki_3 ty_un_5) (S_bin rfl rfl (ev_sub ..) (S_bin rfl rfl (ev_add ..) (Ai rfl (Sn (WP_ret ?_)))))))
   with_reducible repeat first | apply Exit.sr | apply Exit.br | apply Exit.jr
   refine C_ret (fn := Tryz.f87) rfl (.tmp (v := .I (IntKind.wrap .i64 ((IntKind.wrap .i64 ((IntKind.wrap .i64 p0) - (97 : Int))) + (10 : Int)))) rfl .nil) ?_
   exact ⟨_, _, (.refl _), ok.wh, _, F_some hF, rfl, rfl⟩
  ·refine WP_skip (C_seq (CR (Mi rfl (S_bin rfl rfl (ev_geq ..) (Mb rfl ?_)))))
   refine S_two (b := (decide ((65 : Int) ≤ p0))) 3 27 (.bool ((decide ((65 : Int) ≤ p0)) && (decide (p0 ≤ (70 : Int))))) (fun hb5 => ?_) (fun hb5 => ?_) ?_
   ·refine Sx rfl rfl hb5 (Mi rfl (Sn (Sx rfl rfl hb5 (S_bin rfl rfl (ev_leq ..) (Sn (S_pickT (v := .bool _) rfl hb5 rfl (Sn (.hd (and_t hb5) ?_))))))))
    repeat first | with_reducible exact .refl _ | refine .add ?_ rfl
   ·refine So rfl rfl hb5 (So rfl rfl hb5 (S_pickF (v := .bool _) rfl hb5 rfl (Sn (.hd (and_f hb5) ?_))))
    repeat first | with_reducible exact .refl _ | refine .add ?_ rfl
   refine Sn ?_
   refine C_if (b := ((decide ((65 : Int) ≤ p0)) && (decide (p0 ≤ (70 : Int))))) rfl hF (fun hb6 hF => ?_) (fun hb6 hF => ?_)
   ·refine CR (Mi rfl (S_conv rfl (e_ci ty_ki_3 ty_un_5) (S_bin rfl rfl (ev_sub ..) (S_bin rfl rfl (ev_add ..) (Ai rfl (Sn (WP_ret ?_)))))))
    with_reducible repeat first | apply Exit.sr | apply Exit.br | apply Exit.jr
    refine C_ret (fn := Tryz.f87) rfl (.tmp (v := .I (IntKind.wrap .i64 ((IntKind.wrap .i64 ((IntKind.wrap .i64 p0) - (65 : Int))) + (10 : Int)))) rfl .nil) ?_
    exact ⟨_, _, (.refl _), ok.wh, _, F_some hF, rfl, rfl⟩
   ·refine WP_skip (CR (Ai rfl (Sn (WP_ret ?_))))
    with_reducible repeat first | apply Exit.sr | apply Exit.br | apply Exit.jr
    refine C_ret (fn := Tryz.f87) rfl (.tmp (v := .I (-1 : Int)) rfl .nil) ?_
    exact ⟨_, _, (.refl _), ok.wh, _, F_some hF, rfl, rfl⟩
theorem Fb_hex_ok {β : Type} {f : Int → Option β} {G : β → Prop} {R : D → Heap → Prop} {p0 : Int} (h : Heap) (hF : OptP ((Fb_hex p0).bind f) G) (hk : ∀ r, Fb_hex p0 = some r → OptP (f r) G → R (.I r) h) : CallsA Tryz.prog 87 [.int .u8 p0] h R := by
 obtain ⟨r0, hr, hF⟩ := F_bind hF
 refine (Fb_hex_w (G := fun r => r = r0) p0 h ⟨r0, hr, rfl⟩).mono ?_
 rintro _ _ ⟨r, rfl, rfl, rfl⟩
 exact hk _ hr hF
theorem Fb_Expand_w (p0 : LB) (p1 : Int) {G : Int × Int × Int → Prop} (h : Heap) (hF : OptP (Fb_Expand p0 p1) G) : CallsA Tryz.prog 64 [.sl 1 (List.map c_u8 p0) 0, .I p1] h fun d h' => ∃ r, G r ∧ d = .tup [.I r.1, .I r.2.1, .I r.2.2] ∧ h' = h := by
 refine CallsA.ret (C_body Tryz.func64 rfl en_64 Tryz.ntmps64 rfl (fun ok => ?_))
 rw [Fb_Expand] at hF
 refine CR (Ai rfl (Ai rfl (Ai rfl (Sn (CR (Ml rfl (Mi rfl (S_bin rfl rfl (ev_add ..) (S_call (Fb_word_ok _ hF fun x1 _ hF => (S_m (v := .tup _) rfl (S_ext rfl rfl (S_ext rfl rfl (Ai rfl (Ai rfl (Sn (C_seq (CR (Mi rfl (S_bin rfl rfl (ev_gtr ..) (Sn ?_)))))))))))) (.refl _))))))))))
 refine C_if (b := (decide ((0 : Int) < x1.2))) rfl hF (fun hb2 hF => ?_) (fun hb2 hF => ?_)
 ·refine CR (Mi rfl (Mi rfl (Ai rfl (Ai rfl (Ai rfl (Sn (WP_ret ?_)))))))
  with_reducible repeat first | apply Exit.sr | apply Exit.br | apply Exit.jr
  refine C_ret (fn := Tryz.f64) rfl (.tmp (v := .I x1.1) rfl (.tmp (v := .I x1.2) rfl (.tmp (v := .I 0) rfl .nil))) ?_
  exact ⟨_, _, (.refl _), ok.wh, _, F_some hF, rfl, rfl⟩
 ·refine WP_skip (CR (Mi rfl (S_bin rfl rfl (ev_add ..) (Ai rfl (Sn (CR (Ai rfl (Sn (C_seq (CR (Mi rfl (Ml rfl (S_lenL rfl ty_sl_22 (S_bin rfl rfl (ev_geq ..) (Mb rfl ?_)))))))))))))))
  refine S_twoJ 6 36 hF (fun J4 hb3 hF => ?_) (fun J4 hb3 hF => ?_) (fun v5 hF => ?_)
  ·refine So rfl rfl hb3 (So rfl rfl hb3 (So rfl rfl hb3 (So rfl rfl hb3 (So rfl rfl hb3 (S_pickT (v := .bool _) rfl hb3 rfl (Sn ?_))))))
   refine ⟨_, hF, .hd (.refl _) ?_⟩
   repeat first | with_reducible exact .refl _ | refine .add ?_ rfl
  ·refine Sx rfl rfl hb3 (Ml rfl (Sn (Sx rfl rfl hb3 (Mi rfl (Sn (Sx rfl rfl hb3 (S_ix rfl rfl ty_sl_22 ty_sz_5 hF (fun x6 _ hF => Sn (Sx rfl rfl hb3 (S_ldQ rfl (p_one ty_ag_5 ty_sz_5 rfl) (Sn (Sx rfl rfl hb3 (S_bin rfl rfl (ev_neq ..) (Sn (S_pickF (v := .bool _) rfl hb3 rfl (Sn ?_))))))))))))))))
   refine ⟨_, hF, .hd (.refl _) ?_⟩
   repeat first | with_reducible exact .refl _ | refine .add ?_ rfl
  ·refine Sn ?_
   refine C_if (b := v5) rfl hF (fun hb7 hF => ?_) (fun hb7 hF => ?_)
   ·refine CR (Ai rfl (Ai rfl (Ai rfl (Sn (WP_ret ?_)))))
    with_reducible repeat first | apply Exit.sr | apply Exit.br | apply Exit.jr
    refine C_ret (fn := Tryz.f64) rfl (.tmp (v := .I 0) rfl (.tmp (v := .I 0) rfl (.tmp (v := .I 22) rfl .nil))) ?_
    exact ⟨_, _, (.refl _), ok.wh, _, F_some hF, rfl, rfl⟩
   ·refine WP_skip (CR (Mi rfl (S_bin rfl rfl (ev_add ..) (Ai rfl (Sn ?_)))))
    refine C_join hF (fun (v : Int × Int) s' => match v with | (a13, a14) => OK h [] ∧ WS s' ⟨mkSl 109 [(0, .sl 1 (List.map c_u8 p0) 0), (9, .I a13), (10, .I a14)], Hp h []⟩) (fun J15 hF => ?_) ?_
    ·refine CR (Mi rfl (Ml rfl (S_lenL rfl ty_sl_22 (S_bin rfl rfl (ev_lss ..) (Mb rfl ?_)))))
     refine S_twoJ 6 49 hF (fun J17 hb16 hF => ?_) (fun J17 hb16 hF => ?_) (fun v18 hF => ?_)
     ·refine Sx rfl rfl hb16 (Ml rfl (Sn (Sx rfl rfl hb16 (Mi rfl (Sn (Sx rfl rfl hb16 (S_ix rfl rfl ty_sl_22 ty_sz_5 hF (fun x19 _ hF => Sn (Sx rfl rfl hb16 (S_ldQ rfl (p_one ty_ag_5 ty_sz_5 rfl) (Sn (Sx rfl rfl hb16 (S_bin rfl rfl (ev_eql ..) (Sn (S_pickT (v := .bool _) rfl hb16 rfl (Sn ?_))))))))))))))))
      refine ⟨_, hF, .hd (.refl _) ?_⟩
      repeat first | with_reducible exact .refl _ | refine .add ?_ rfl
     ·refine So rfl rfl hb16 (So rfl rfl hb16 (So rfl rfl hb16 (So rfl rfl hb16 (So rfl rfl hb16 (S_pickF (v := .bool _) rfl hb16 rfl (Sn ?_))))))
      refine ⟨_, hF, .hd (.refl _) ?_⟩
      repeat first | with_reducible exact .refl _ | refine .add ?_ rfl
     ·refine Sn ?_
      refine C_if (b := v18) rfl hF (fun hb20 hF => ?_) (fun hb20 hF => ?_)
      ·refine CR (Ai rfl (Sn (C_reg (mdl []) (Mi rfl (S_bin rfl rfl (ev_add ..) (Ai rfl (Sn ?_)))))))
       exact ⟨((IntKind.wrap .i64 ((IntKind.wrap .i64 ((IntKind.wrap .i64 (p1 + (1 : Int))) + (1 : Int))) + (1 : Int))), (16 : Int)), hF, ok, WS.mk' (.k (.k (.k .nil))) ok (.refl _)⟩
      ·refine WP_skip ?_
       exact ⟨((IntKind.wrap .i64 ((IntKind.wrap .i64 (p1 + (1 : Int))) + (1 : Int))), (10 : Int)), hF, ok, WS.mk' (.k (.k (.k .nil))) ok (.refl _)⟩
    ·rintro ⟨a13, a14⟩ s' hF ⟨ok, hws⟩
     refine WP_ws hws ?_
     clear hws s'
     refine CR (Ai rfl (Sn (CR (Ai rfl (Sn ?_)))))
     refine C_join hF (fun (v : Int × Int × Int) s' => match v with | (a42, a43, a44) => OK h [] ∧ WS s' ⟨mkSl 109 [(0, .sl 1 (List.map c_u8 p0) 0), (9, .I a42), (11, .I a43), (12, .I a44)], Hp h []⟩) (fun J45 hF => ?_) ?_
     ·refine WP_block ?_
      refine C_loop (σ := Int × Int × Int) hF (fun (v : Int × Int × Int) s' => match v with | (a46, a47, a48) => OK h [] ∧ WS s' ⟨mkSl 109 [(0, .sl 1 (List.map c_u8 p0) 0), (9, .I a46), (10, .I a14), (11, .I a47), (12, .I a48)], Hp h []⟩) ?_ ?_
      ·exact ⟨ok, WS.mk' (.k (.k (.k (.k (.k .nil))))) ok (.refl _)⟩
      ·rintro G49 hG50 rec51 ⟨a46, a47, a48⟩ s' ih52 hF ⟨ok, hws⟩
       refine WP_ws hws ?_
       clear hws s'
       rw [Fb_Expand_l0] at hF
       refine C_seq (CR (Mi rfl (Ml rfl (S_lenL rfl ty_sl_22 (S_bin rfl rfl (ev_lss ..) (Mb rfl ?_))))))
       refine S_twoJ 7 63 hF (fun J54 hb53 hF => ?_) (fun J54 hb53 hF => ?_) (fun v55 hF => ?_)
       ·refine Sx rfl rfl hb53 (Ml rfl (Sn (Sx rfl rfl hb53 (Mi rfl (Sn (Sx rfl rfl hb53 (S_ix rfl rfl ty_sl_22 ty_sz_5 hF (fun x56 _ hF => Sn (Sx rfl rfl hb53 (S_ldQ rfl (p_one ty_ag_5 ty_sz_5 rfl) (Sn (Sx rfl rfl hb53 (S_call (Fb_hex_ok _ hF fun x57 _ hF => (Sn (Sx rfl rfl hb53 (S_bin rfl rfl (ev_geq ..) (Sn (S_pickT (v := .bool _) rfl hb53 rfl (Sn ?_))))))) (.refl _))))))))))))))
        refine ⟨_, hF, .hd (.refl _) ?_⟩
        repeat first | with_reducible exact .refl _ | refine .add ?_ rfl
       ·refine So rfl rfl hb53 (So rfl rfl hb53 (So rfl rfl hb53 (So rfl rfl hb53 (So rfl rfl hb53 (So rfl rfl hb53 (S_pickF (v := .bool _) rfl hb53 rfl (Sn ?_)))))))
        refine ⟨_, hF, .hd (.refl _) ?_⟩
        repeat first | with_reducible exact .refl _ | refine .add ?_ rfl
       ·refine Mb rfl ?_
        refine S_twoJ 8 72 hF (fun J59 hb58 hF => ?_) (fun J59 hb58 hF => ?_) (fun v60 hF => ?_)
        ·refine Sx rfl rfl hb58 (Ml rfl (Sn (Sx rfl rfl hb58 (Mi rfl (Sn (Sx rfl rfl hb58 (S_ix rfl rfl ty_sl_22 ty_sz_5 hF (fun x61 _ hF => Sn (Sx rfl rfl hb58 (S_ldQ rfl (p_one ty_ag_5 ty_sz_5 rfl) (Sn (Sx rfl rfl hb58 (S_call (Fb_hex_ok _ hF fun x62 _ hF => (Sn (Sx rfl rfl hb58 (Mi rfl (Sn (Sx rfl rfl hb58 (S_bin rfl rfl (ev_lss ..) (Sn (S_pickT (v := .bool _) rfl hb58 rfl (Sn ?_)))))))))) (.refl _))))))))))))))
         refine ⟨_, hF, .hd (.refl _) ?_⟩
         repeat first | with_reducible exact .refl _ | refine .add ?_ rfl
        ·refine So rfl rfl hb58 (So rfl rfl hb58 (So rfl rfl hb58 (So rfl rfl hb58 (So rfl rfl hb58 (So rfl rfl hb58 (So rfl rfl hb58 (S_pickF (v := .bool _) rfl hb58 rfl (Sn ?_))))))))
         refine ⟨_, hF, .hd (.refl _) ?_⟩
         repeat first | with_reducible exact .refl _ | refine .add ?_ rfl
        ·refine Sn ?_
         refine C_if (b := v60) rfl hF (fun hb63 hF => ?_) (fun hb63 hF => ?_)
         ·refine WP_skip (WP_block ?_)
          refine C_join hF (fun (a67 : Int) s' => OK h [] ∧ WS s' ⟨mkSl 109 [(0, .sl 1 (List.map c_u8 p0) 0), (9, .I a46), (10, .I a14), (11, .I a67), (12, .I a48)], Hp h []⟩) (fun J68 hF => ?_) ?_
          ·refine CR (Mi rfl (S_bin rfl rfl (ev_lss ..) (Sn ?_)))
           refine C_if (b := (decide (a47 < (2097152 : Int)))) rfl hF (fun hb69 hF => ?_) (fun hb69 hF => ?_)
           ·refine C_reg (mdl []) (Mi rfl (Mi rfl (S_bin rfl rfl (ev_mul ..) (Ml rfl (Mi rfl (S_ix rfl rfl ty_sl_22 ty_sz_5 hF (fun x70 _ hF => S_ldQ rfl (p_one ty_ag_5 ty_sz_5 rfl) (S_call (Fb_hex_ok _ hF fun x71 _ hF => (S_bin rfl rfl (ev_add ..) (Ai rfl (Sn ?_)))) (.refl _)))))))))
            exact ⟨(IntKind.wrap .i64 ((IntKind.wrap .i64 (a14 * a47)) + x71)), hF, ok, WS.mk' (.k (.k (.k (.k (.k .nil))))) ok (.refl _)⟩
           ·refine WP_skip ?_
            exact ⟨a47, hF, ok, WS.mk' (.k (.k (.k (.k (.k .nil))))) ok (.refl _)⟩
          ·rintro a67 s' hF ⟨ok, hws⟩
           refine WP_ws hws ?_
           clear hws s'
           refine CR (Mi rfl (S_bin rfl rfl (ev_add ..) (Ai rfl (Sn (C_reg (mdl []) (Mi rfl (S_bin rfl rfl (ev_add ..) (Ai rfl (Sn (ih52 ((IntKind.wrap .i64 (a46 + (1 : Int))), a67, (IntKind.wrap .i64 (a48 + (1 : Int)))) _ hF ?_))))))))))
           exact ⟨ok, WS.mk' (.k (.k (.k (.k (.k .nil))))) ok (.refl _)⟩
         ·refine WP_exit ?_
          simp only [Exit.sel, Exit.blk, Exit.jmp, if_true, if_false, reduceIte, Nat.reduceEqDiff, Nat.succ_ne_zero, Nat.zero_ne_one, Nat.one_ne_zero]
          replace hF := hG50 _ (F_some hF)
          exact ⟨(a46, a47, a48), hF, ok, WS.mk' (.k (.k (.k (.k .nil)))) ok (.refl _)⟩
     ·rintro ⟨a42, a43, a44⟩ s' hF ⟨ok, hws⟩
      refine WP_ws hws ?_
      clear hws s'
      refine C_seq (CR (Mi rfl (S_bin rfl rfl (ev_eql ..) (Mb rfl ?_))))
      refine S_two (b := (a44 == (0 : Int))) 5 95 (.bool ((a44 == (0 : Int)) || (decide ((p0.length : Int) ≤ a42)))) (fun hb72 => ?_) (fun hb72 => ?_) ?_
      ·refine So rfl rfl hb72 (So rfl rfl hb72 (So rfl rfl hb72 (So rfl rfl hb72 (S_pickT (v := .bool _) rfl hb72 rfl (Sn (.hd (or_t hb72) ?_))))))
       repeat first | with_reducible exact .refl _ | refine .add ?_ rfl
      ·refine Sx rfl rfl hb72 (Mi rfl (Sn (Sx rfl rfl hb72 (Ml rfl (Sn (Sx rfl rfl hb72 (S_lenL rfl ty_sl_22 (Sn (Sx rfl rfl hb72 (S_bin rfl rfl (ev_geq ..) (Sn (S_pickF (v := .bool _) rfl hb72 rfl (Sn (.hd (or_f hb72) ?_))))))))))))))
       repeat first | with_reducible exact .refl _ | refine .add ?_ rfl
      refine Mb rfl ?_
      refine S_twoJ 6 102 hF (fun J74 hb73 hF => ?_) (fun J74 hb73 hF => ?_) (fun v75 hF => ?_)
      ·refine So rfl rfl hb73 (So rfl rfl hb73 (So rfl rfl hb73 (So rfl rfl hb73 (So rfl rfl hb73 (S_pickT (v := .bool _) rfl hb73 rfl (Sn ?_))))))
       refine ⟨_, hF, .hd (.refl _) ?_⟩
       repeat first | with_reducible exact .refl _ | refine .add ?_ rfl
      ·refine Sx rfl rfl hb73 (Ml rfl (Sn (Sx rfl rfl hb73 (Mi rfl (Sn (Sx rfl rfl hb73 (S_ix rfl rfl ty_sl_22 ty_sz_5 hF (fun x76 _ hF => Sn (Sx rfl rfl hb73 (S_ldQ rfl (p_one ty_ag_5 ty_sz_5 rfl) (Sn (Sx rfl rfl hb73 (S_bin rfl rfl (ev_neq ..) (Sn (S_pickF (v := .bool _) rfl hb73 rfl (Sn ?_))))))))))))))))
       refine ⟨_, hF, .hd (.refl _) ?_⟩
       repeat first | with_reducible exact .refl _ | refine .add ?_ rfl
      ·refine Sn ?_
       refine C_if (b := v75) rfl hF (fun hb77 hF => ?_) (fun hb77 hF => ?_)
       ·refine CR (Ai rfl (Ai rfl (Ai rfl (Sn (WP_ret ?_)))))
        with_reducible repeat first | apply Exit.sr | apply Exit.br | apply Exit.jr
        refine C_ret (fn := Tryz.f64) rfl (.tmp (v := .I 0) rfl (.tmp (v := .I 0) rfl (.tmp (v := .I 22) rfl .nil))) ?_
        exact ⟨_, _, (.refl _), ok.wh, _, F_some hF, rfl, rfl⟩
       ·refine WP_skip (C_seq (CR (Mi rfl (S_call (Fa_Char_ok _ hF fun x78 _ hF => (S_un rfl (ev_not _) (Sn ?_))) (.refl _)))))
        refine C_if (b := (!x78)) rfl hF (fun hb79 hF => ?_) (fun hb79 hF => ?_)
        ·refine CR (Ai rfl (Ai rfl (Ai rfl (Sn (WP_ret ?_)))))
         with_reducible repeat first | apply Exit.sr | apply Exit.br | apply Exit.jr
         refine C_ret (fn := Tryz.f64) rfl (.tmp (v := .I 0) rfl (.tmp (v := .I 0) rfl (.tmp (v := .I 21) rfl .nil))) ?_
         exact ⟨_, _, (.refl _), ok.wh, _, F_some hF, rfl, rfl⟩
        ·refine WP_skip (CR (Mi rfl (Mi rfl (S_bin rfl rfl (ev_add ..) (Ai rfl (Ai rfl (Ai rfl (Sn (WP_ret ?_)))))))))
         with_reducible repeat first | apply Exit.sr | apply Exit.br | apply Exit.jr
         refine C_ret (fn := Tryz.f64) rfl (.tmp (v := .I a43) rfl (.tmp (v := .I (IntKind.wrap .i64 (a42 + (1 : Int)))) rfl (.tmp (v := .I 0) rfl .nil))) ?_
         exact ⟨_, _, (.refl _), ok.wh, _, F_some hF, rfl, rfl⟩
theorem Fb_Expand_ok {β : Type} {f : Int × Int × Int → Option β} {G : β → Prop} {R : D → Heap → Prop} {p0 : LB} {p1 : Int} (h : Heap) (hF : OptP ((Fb_Expand p0 p1).bind f) G) (hk : ∀ r, Fb_Expand p0 p1 = some r → OptP (f r) G → R (.tup [.I r.1, .I r.2.1, .I r.2.2]) h) : CallsA Tryz.prog 64 [.sl 1 (List.map c_u8 p0) 0, .I p1] h R := by
 obtain ⟨r0, hr, hF⟩ := F_bind hF
 refine (Fb_Expand_w (G := fun r => r = r0) p0 p1 h ⟨r0, hr, rfl⟩).mono ?_
 rintro _ _ ⟨r, rfl, rfl, rfl⟩
 exact hk _ hr hF
theorem Fb_Read_w (p0 : LB) (p1 : Bool) {G : LB × Int × Int → Prop} (h : Heap) (hF : OptP (Fb_Read p0 p1) G) : CallsA Tryz.prog 41 [.sl 1 (List.map c_u8 p0) 0, .bool p1] h fun d h' => ∃ r, G r ∧ d = .tup [.str r.1, .I r.2.1, .I r.2.2] ∧ h' = h := by
 refine CallsA.ret (C_body Tryz.func41 rfl en_41 Tryz.ntmps41 rfl (fun ok => ?_))
 rw [Fb_Read] at hF
 refine CR (S_a (v := .str nB) rfl (Ai rfl (Ai rfl (Sn (C_seq (C_reg (mdl [(13, 2)]) ?_))))))
 refine S_lit2 (es := List.map c_u8 []) ok rfl ty_el_22 rfl rfl (by simp only [List.map_cons, List.map_nil, c_u8, ]; rfl) ?_
 intro r1 hr1 ok
 refine S_a (v := .sl _ _ _) rfl (Sn ?_)
 refine C_join hF (fun (a45 : LB) s' => ∃ g46 : Nat, g46 ≠ 0 ∧ OK h [(g46, .room)] ∧ WS s' ⟨mkSl 103 [(7, .sl 1 (List.map c_u8 a45) g46)], Hp h [(g46, .room)]⟩) (fun J47 hF => ?_) ?_
 ·refine CR (Ai rfl (Sn (WP_block ?_)))
  refine C_loop (σ := LB × Int) hF (fun (v : LB × Int) s' => match v with | (a48, a50) => ∃ g49 : Nat, g49 ≠ 0 ∧ OK h [(g49, .room)] ∧ WS s' ⟨mkSl 103 [(0, .sl 1 (List.map c_u8 p0) 0), (1, .bool p1), (7, .sl 1 (List.map c_u8 a48) g49), (8, .I a50)], Hp h [(g49, .room)]⟩) ?_ ?_
  ·exact ⟨r1, hr1, ok, WS.mk' (.k (.k (.k (.k .nil)))) ok (.refl _)⟩
  ·rintro G51 hG52 rec53 ⟨a48, a50⟩ s' ih54 hF ⟨g49, hg49, ok, hws⟩
   refine WP_ws hws ?_
   clear hws s'
   rw [Fb_Read_l0] at hF
   refine C_seq (CR (Mi rfl (Ml rfl (S_lenL rfl ty_sl_22 (S_bin rfl rfl (ev_lss ..) (Sn ?_))))))
   refine C_if (b := (decide (a50 < (p0.length : Int)))) rfl hF (fun hb55 hF => ?_) (fun hb55 hF => ?_)
   ·refine WP_skip (WP_block (CR (Ml rfl (Mi rfl (S_call (Fa_Read_ok _ hF fun x56 _ hF => (S_m (v := .tup _) rfl (S_ext rfl rfl (S_ext rfl rfl (Ai rfl (Ai rfl (Sn (C_seq (CR (Mi rfl (S_bin rfl rfl (ev_eql ..) (Sn ?_)))))))))))) (.refl _))))))
    refine C_if (b := (x56.2 == (0 : Int))) rfl hF (fun hb57 hF => ?_) (fun hb57 hF => ?_)
    ·refine CR (Mi rfl (S_a (v := .str nB) rfl (Ai rfl (Ai rfl (Sn (WP_ret ?_))))))
     replace hF := hG52 _ (F_some hF)
     with_reducible repeat first | apply Exit.sr | apply Exit.br | apply Exit.jr
     refine C_ret (fn := Tryz.f41) rfl (.tmp (v := .str nB) rfl (.tmp (v := .I a50) rfl (.tmp (v := .I 20) rfl .nil))) ?_
     exact ⟨_, _, (.refl _), ok.wh, _, F_some hF, rfl, rfl⟩
    ·refine WP_skip (C_seq (CR (Mi rfl (S_call (Fa_Char_ok _ hF fun x58 _ hF => (S_un rfl (ev_not _) (Sn ?_))) (.refl _)))))
     refine C_if (b := (!x58)) rfl hF (fun hb59 hF => ?_) (fun hb59 hF => ?_)
     ·refine CR (Mi rfl (S_a (v := .str nB) rfl (Ai rfl (Ai rfl (Sn (WP_ret ?_))))))
      replace hF := hG52 _ (F_some hF)
      with_reducible repeat first | apply Exit.sr | apply Exit.br | apply Exit.jr
      refine C_ret (fn := Tryz.f41) rfl (.tmp (v := .str nB) rfl (.tmp (v := .I a50) rfl (.tmp (v := .I 21) rfl .nil))) ?_
      exact ⟨_, _, (.refl _), ok.wh, _, F_some hF, rfl, rfl⟩
     ·refine WP_skip (C_seq (CR (Mi rfl (S_bin rfl rfl (ev_eql ..) (Mb rfl ?_)))))
      refine S_twoJ 30 63 hF (fun J61 hb60 hF => ?_) (fun J61 hb60 hF => ?_) (fun v62 hF => ?_)
      ·refine So rfl rfl hb60 (So rfl rfl hb60 (So rfl rfl hb60 (S_off2 rfl rfl (S_offD (S_off2 rfl rfl (S_offD (So rfl rfl hb60 (So rfl rfl hb60 (S_off2 rfl rfl (S_offD (S_off2 rfl rfl (S_offD (S_off2 rfl rfl (S_offD (S_off2 rfl rfl (S_offD (S_off2 rfl rfl (S_offD (So rfl rfl hb60 (So rfl rfl hb60 (S_off2 rfl rfl (S_offD (S_off2 rfl rfl (S_offD (S_off2 rfl rfl (S_offD (S_off2 rfl rfl (S_offD (S_off2 rfl rfl (S_offD (S_off2 rfl rfl (S_offD ?_))))))))))))))))))))))))))))))))
       refine So rfl rfl hb60 (So rfl rfl hb60 (S_off2 rfl rfl (S_offD (S_off2 rfl rfl (S_offD (S_off2 rfl rfl (S_offD (S_off2 rfl rfl (S_offD (S_off2 rfl rfl (S_offD (S_off2 rfl rfl (S_offD (So rfl rfl hb60 (S_pickT (v := .bool _) rfl hb60 rfl (Sn ?_))))))))))))))))
       refine ⟨_, hF, .hd (.refl _) ?_⟩
       repeat first | with_reducible exact .refl _ | refine .add ?_ rfl
      ·refine Sx rfl rfl hb60 (Mb rfl (Sn (Sx rfl rfl hb60 (S_un rfl (ev_not _) (Sn (Sx rfl rfl hb60 (Mb rfl (Sn ?_))))))))
       refine S_two (b := (!p1)) 3 39 (.bool ((!p1) && (x56.1 == (93 : Int)))) (fun hb63 => ?_) (fun hb63 => ?_) ?_
       ·refine Sx rfl rfl hb63 (Mi rfl (Sn (Sx rfl rfl hb63 (S_bin rfl rfl (ev_eql ..) (Sn (Sx rfl rfl hb60 (S_pickT (v := .bool _) rfl hb63 rfl (Sn (Sn (.hd (and_t hb63) ?_))))))))))
        repeat first | with_reducible exact .refl _ | refine .add ?_ rfl
       ·refine So rfl rfl hb63 (So rfl rfl hb63 (Sx rfl rfl hb60 (S_pickF (v := .bool _) rfl hb63 rfl (Sn (Sn (.hd (and_f hb63) ?_))))))
        repeat first | with_reducible exact .refl _ | refine .add ?_ rfl
       refine Sx rfl rfl hb60 (Mb rfl (Sn ?_))
       refine S_two (b := ((!p1) && (x56.1 == (93 : Int)))) 6 46 (.bool (((!p1) && (x56.1 == (93 : Int))) && (decide ((IntKind.wrap .i64 (a50 + (2 : Int))) < (p0.length : Int))))) (fun hb64 => ?_) (fun hb64 => ?_) ?_
       ·refine Sx rfl rfl hb64 (Mi rfl (Sn (Sx rfl rfl hb64 (S_bin rfl rfl (ev_add ..) (Sn (Sx rfl rfl hb64 (Ml rfl (Sn (Sx rfl rfl hb64 (S_lenL rfl ty_sl_22 (Sn (Sx rfl rfl hb64 (S_bin rfl rfl (ev_lss ..) (Sn (Sx rfl rfl hb60 (S_pickT (v := .bool _) rfl hb64 rfl (Sn (Sn (.hd (and_t hb64) ?_)))))))))))))))))))
        repeat first | with_reducible exact .refl _ | refine .add ?_ rfl
       ·refine So rfl rfl hb64 (So rfl rfl hb64 (So rfl rfl hb64 (So rfl rfl hb64 (So rfl rfl hb64 (Sx rfl rfl hb60 (S_pickF (v := .bool _) rfl hb64 rfl (Sn (Sn (.hd (and_f hb64) ?_)))))))))
        repeat first | with_reducible exact .refl _ | refine .add ?_ rfl
       refine Sx rfl rfl hb60 (Mb rfl (Sn ?_))
       refine S_twoJ 7 54 hF (fun J66 hb65 hF => ?_) (fun J66 hb65 hF => ?_) (fun v67 hF => ?_)
       ·refine Sx rfl rfl hb65 (Ml rfl (Sn (Sx rfl rfl hb65 (Mi rfl (Sn (Sx rfl rfl hb65 (S_bin rfl rfl (ev_add ..) (Sn (Sx rfl rfl hb65 (S_ix rfl rfl ty_sl_22 ty_sz_5 hF (fun x68 _ hF => Sn (Sx rfl rfl hb65 (S_ldQ rfl (p_one ty_ag_5 ty_sz_5 rfl) (Sn (Sx rfl rfl hb65 (S_bin rfl rfl (ev_eql ..) (Sn (Sx rfl rfl hb60 (S_pickT (v := .bool _) rfl hb65 rfl (Sn (Sn ?_)))))))))))))))))))))
        refine ⟨_, hF, .hd (.refl _) ?_⟩
        repeat first | with_reducible exact .refl _ | refine .add ?_ rfl
       ·refine So rfl rfl hb65 (So rfl rfl hb65 (So rfl rfl hb65 (So rfl rfl hb65 (So rfl rfl hb65 (So rfl rfl hb65 (Sx rfl rfl hb60 (S_pickF (v := .bool _) rfl hb65 rfl (Sn (Sn ?_)))))))))
        refine ⟨_, hF, .hd (.refl _) ?_⟩
        repeat first | with_reducible exact .refl _ | refine .add ?_ rfl
       ·refine Sx rfl rfl hb60 (Mb rfl (Sn ?_))
        refine S_twoJ 7 62 hF (fun J70 hb69 hF => ?_) (fun J70 hb69 hF => ?_) (fun v71 hF => ?_)
        ·refine Sx rfl rfl hb69 (Ml rfl (Sn (Sx rfl rfl hb69 (Mi rfl (Sn (Sx rfl rfl hb69 (S_bin rfl rfl (ev_add ..) (Sn (Sx rfl rfl hb69 (S_ix rfl rfl ty_sl_22 ty_sz_5 hF (fun x72 _ hF => Sn (Sx rfl rfl hb69 (S_ldQ rfl (p_one ty_ag_5 ty_sz_5 rfl) (Sn (Sx rfl rfl hb69 (S_bin rfl rfl (ev_eql ..) (Sn (Sx rfl rfl hb60 (S_pickT (v := .bool _) rfl hb69 rfl (Sn (Sn ?_)))))))))))))))))))))
         refine ⟨_, hF, .hd (.refl _) ?_⟩
         repeat first | with_reducible exact .refl _ | refine .add ?_ rfl
        ·refine So rfl rfl hb69 (So rfl rfl hb69 (So rfl rfl hb69 (So rfl rfl hb69 (So rfl rfl hb69 (So rfl rfl hb69 (Sx rfl rfl hb60 (S_pickF (v := .bool _) rfl hb69 rfl (Sn (Sn ?_)))))))))
         refine ⟨_, hF, .hd (.refl _) ?_⟩
         repeat first | with_reducible exact .refl _ | refine .add ?_ rfl
        ·refine S_pickF (v := .bool _) rfl hb60 rfl (Sn ?_)
         refine ⟨_, hF, .hd (.refl _) ?_⟩
         repeat first | with_reducible exact .refl _ | refine .add ?_ rfl
      ·refine Sn ?_
       refine C_if (b := v62) rfl hF (fun hb73 hF => ?_) (fun hb73 hF => ?_)
       ·refine CR (Mi rfl (S_a (v := .str nB) rfl (Ai rfl (Ai rfl (Sn (WP_ret ?_))))))
        replace hF := hG52 _ (F_some hF)
        with_reducible repeat first | apply Exit.sr | apply Exit.br | apply Exit.jr
        refine C_ret (fn := Tryz.f41) rfl (.tmp (v := .str nB) rfl (.tmp (v := .I a50) rfl (.tmp (v := .I 23) rfl .nil))) ?_
        exact ⟨_, _, (.refl _), ok.wh, _, F_some hF, rfl, rfl⟩
       ·refine WP_skip (CR (Mi rfl (Mi rfl (S_bin rfl rfl (ev_add ..) (Ai rfl (Sn ?_))))))
        refine C_join hF (fun (v : Int × Int) s' => match v with | (a83, a84) => OK h [(g49, .room)] ∧ WS s' ⟨mkSl 103 [(0, .sl 1 (List.map c_u8 p0) 0), (1, .bool p1), (7, .sl 1 (List.map c_u8 a48) g49), (9, .I a83), (11, .I a84)], Hp h [(g49, .room)]⟩) (fun J85 hF => ?_) ?_
        ·refine CR (Mi rfl (S_bin rfl rfl (ev_eql ..) (Sn ?_)))
         refine C_if (b := (x56.1 == (38 : Int))) rfl hF (fun hb86 hF => ?_) (fun hb86 hF => ?_)
         ·refine CR (Ai rfl (Sn (CR (Ml rfl (Mi rfl (S_call (Fb_Expand_ok _ hF fun x87 _ hF => (S_m (v := .tup _) rfl (S_ext rfl rfl (S_ext rfl rfl (S_ext rfl rfl (Ai rfl (Ai rfl (Ai rfl (Sn (CR (Mi rfl (S_bin rfl rfl (ev_neq ..) (Sn ?_))))))))))))) (.refl _)))))))
          refine C_if (b := (x87.2.2 != (0 : Int))) rfl hF (fun hb88 hF => ?_) (fun hb88 hF => ?_)
          ·refine CR (Mi rfl (Mi rfl (S_a (v := .str nB) rfl (Ai rfl (Ai rfl (Sn (WP_ret ?_)))))))
           replace hF := hG52 _ (F_some hF)
           with_reducible repeat first | apply Exit.sr | apply Exit.br | apply Exit.jr
           refine C_ret (fn := Tryz.f41) rfl (.tmp (v := .str nB) rfl (.tmp (v := .I a50) rfl (.tmp (v := .I x87.2.2) rfl .nil))) ?_
           exact ⟨_, _, (.refl _), ok.wh, _, F_some hF, rfl, rfl⟩
          ·refine WP_skip ?_
           exact ⟨(x87.1, x87.2.1), hF, ok, WS.mk' (.k (.k (.k (.k (.k .nil))))) ok (.refl _)⟩
         ·refine CR (Mb rfl (Mb rfl ?_))
          refine S_two (b := p1) 11 93 (.bool (p1 && (((x56.1 == (9 : Int)) || (x56.1 == (10 : Int))) || (x56.1 == (13 : Int))))) (fun hb89 => ?_) (fun hb89 => ?_) ?_
          ·refine Sx rfl rfl hb89 (Mi rfl (Sn (Sx rfl rfl hb89 (S_bin rfl rfl (ev_eql ..) (Sn (Sx rfl rfl hb89 (Mb rfl (Sn ?_))))))))
           refine S_two (b := (x56.1 == (9 : Int))) 3 88 (.bool ((x56.1 == (9 : Int)) || (x56.1 == (10 : Int)))) (fun hb92 => ?_) (fun hb92 => ?_) ?_
           ·refine So rfl rfl hb92 (So rfl rfl hb92 (Sx rfl rfl hb89 (S_pickT (v := .bool _) rfl hb92 rfl (Sn (Sn (.hd (or_t hb92) ?_))))))
            repeat first | with_reducible exact .refl _ | refine .add ?_ rfl
           ·refine Sx rfl rfl hb92 (Mi rfl (Sn (Sx rfl rfl hb92 (S_bin rfl rfl (ev_eql ..) (Sn (Sx rfl rfl hb89 (S_pickF (v := .bool _) rfl hb92 rfl (Sn (Sn (.hd (or_f hb92) ?_))))))))))
            repeat first | with_reducible exact .refl _ | refine .add ?_ rfl
           refine Sx rfl rfl hb89 (Mb rfl (Sn ?_))
           refine S_two (b := ((x56.1 == (9 : Int)) || (x56.1 == (10 : Int)))) 3 92 (.bool (((x56.1 == (9 : Int)) || (x56.1 == (10 : Int))) || (x56.1 == (13 : Int)))) (fun hb93 => ?_) (fun hb93 => ?_) ?_
           ·refine So rfl rfl hb93 (So rfl rfl hb93 (Sx rfl rfl hb89 (S_pickT (v := .bool _) rfl hb93 rfl (Sn (Sn (.hd (or_t hb93) ?_))))))
            repeat first | with_reducible exact .refl _ | refine .add ?_ rfl
           ·refine Sx rfl rfl hb93 (Mi rfl (Sn (Sx rfl rfl hb93 (S_bin rfl rfl (ev_eql ..) (Sn (Sx rfl rfl hb89 (S_pickF (v := .bool _) rfl hb93 rfl (Sn (Sn (.hd (or_f hb93) ?_))))))))))
            repeat first | with_reducible exact .refl _ | refine .add ?_ rfl
           refine S_pickT (v := .bool _) rfl hb89 rfl (Sn (.hd (and_t hb89) ?_))
           repeat first | with_reducible exact .refl _ | refine .add ?_ rfl
          ·refine So rfl rfl hb89 (So rfl rfl hb89 (So rfl rfl hb89 (S_off2 rfl rfl (S_offD (S_off2 rfl rfl (S_offD (So rfl rfl hb89 (So rfl rfl hb89 (S_off2 rfl rfl (S_offD (S_off2 rfl rfl (S_offD (So rfl rfl hb89 (S_pickF (v := .bool _) rfl hb89 rfl (Sn (.hd (and_f hb89) ?_))))))))))))))))
           repeat first | with_reducible exact .refl _ | refine .add ?_ rfl
          refine Sn ?_
          refine C_if (b := (p1 && (((x56.1 == (9 : Int)) || (x56.1 == (10 : Int))) || (x56.1 == (13 : Int))))) rfl hF (fun hb94 hF => ?_) (fun hb94 hF => ?_)
          ·refine C_reg (mdl []) (Ai rfl (Sn ?_))
           exact ⟨((32 : Int), (IntKind.wrap .i64 (a50 + x56.2))), hF, ok, WS.mk' (.k (.k (.k (.k (.k .nil))))) ok (.refl _)⟩
          ·refine WP_skip ?_
           exact ⟨(x56.1, (IntKind.wrap .i64 (a50 + x56.2))), hF, ok, WS.mk' (.k (.k (.k (.k (.k .nil))))) ok (.refl _)⟩
        ·rintro ⟨a83, a84⟩ s' hF ⟨ok, hws⟩
         refine WP_ws hws ?_
         clear hws s'
         refine C_seq (C_reg (mdl [(99, 2)]) (Ml rfl (Mi rfl (S_conv rfl (e_ci ty_ki_21 ty_un_3) (S_conv rfl (e_cr ty_ki_9 ty_fa_9 ty_st_9 ty_un_21) (S_byt0 rfl rfl ty_sl_22 ty_st_9 ty_ki_5 (S_app (j := 0) ok rfl rfl rfl rfl hg49 ty_el_22 ty_ni_22 hF ?_)))))))
         intro r95 hr95 ok hF
         refine S_a (v := .sl _ _ _) rfl (Sn (C_reg (mdl []) (Mi rfl (Ai rfl (Sn (ih54 ((a48 ++ (Utf8.encode (IntKind.wrap .i32 a83)).data.toList), a84) _ hF ?_))))))
         exact ⟨r95, hr95, ok, WS.mk' (.k (.k (.k (.k .nil)))) ok (.refl _)⟩
   ·refine WP_exit ?_
    simp only [Exit.sel, Exit.blk, Exit.jmp, if_true, if_false, reduceIte, Nat.reduceEqDiff, Nat.succ_ne_zero, Nat.zero_ne_one, Nat.one_ne_zero]
    replace hF := hG52 _ (F_some hF)
    exact ⟨a48, hF, g49, hg49, ok, WS.mk' (.k .nil) ok (.refl _)⟩
 ·rintro a45 s' hF ⟨g46, hg46, ok, hws⟩
  refine WP_ws hws ?_
  clear hws s'
  refine CR (Ml rfl (S_one 101 (v := .sl 1 (List.map c_u8 a45) 0) (.zero _ _ _) (S_conv rfl (e_cbs ty_sl_22 ty_ki_5 ty_st_9) (S_a (v := .str _) rfl (Ai rfl (Ai rfl (Sn (WP_ret ?_))))))))
  with_reducible repeat first | apply Exit.sr | apply Exit.br | apply Exit.jr
  refine C_ret (fn := Tryz.f41) rfl (.tmp (v := .str a45) rfl (.tmp (v := .I 0) rfl (.tmp (v := .I 0) rfl .nil))) ?_
  exact ⟨_, _, (.refl _), ok.wh, _, F_some hF, rfl, rfl⟩
theorem Fb_Read_ok {β : Type} {f : LB × Int × Int → Option β} {G : β → Prop} {R : D → Heap → Prop} {p0 : LB} {p1 : Bool} (h : Heap) (hF : OptP ((Fb_Read p0 p1).bind f) G) (hk : ∀ r, Fb_Read p0 p1 = some r → OptP (f r) G → R (.tup [.str r.1, .I r.2.1, .I r.2.2]) h) : CallsA Tryz.prog 41 [.sl 1 (List.map c_u8 p0) 0, .bool p1] h R := by
 obtain ⟨r0, hr, hF⟩ := F_bind hF
 refine (Fb_Read_w (G := fun r => r = r0) p0 p1 h ⟨r0, hr, rfl⟩).mono ?_
 rintro _ _ ⟨r, rfl, rfl, rfl⟩
 exact hk _ hr hF
theorem Fc_tag_w (p0 : LB) (p1 : Int) {G : TR × Int × Int → Prop} (h : Heap) (hF : OptP (Fc_tag p0 p1) G) : CallsA Tryz.prog 40 [.str p0, .I p1] h fun d h' => ∃ r, G r ∧ d = .tup [.agg (cTR r.1), .I r.2.1, .I r.2.2] ∧ h' = h := by
 refine CallsA.ret (C_body Tryz.func40 rfl en_40 Tryz.ntmps40 rfl (fun ok => ?_))
 rw [Fc_tag] at hF
 refine C_seq (C_reg (mdl [(4, 1)]) (S_all1 ok rfl ty_zc_37 ?_))
 intro i1 hi1 ok
 refine Ai rfl (Ai rfl (Sn (CR (Ms rfl (Mi rfl (S_call (Fc_written_ok _ hF fun x2 _ hF => (S_m (v := .tup _) rfl (S_ext rfl rfl (S_ext rfl rfl (S_ext rfl rfl (S_a (v := .str _) rfl (Ai rfl (Ai rfl (Sn (C_seq (CR (Mi rfl (S_bin rfl rfl (ev_neq ..) (Sn ?_)))))))))))))) (.refl _)))))))
 refine C_if (b := (x2.2.2 != (0 : Int))) rfl hF (fun hb3 hF => ?_) (fun hb3 hF => ?_)
 ·refine CR (S_bld (v := .agg [.I 0, .I 0, .str nB, .snil, .str nB, .I 0]) (b_st ty_zc_37 ty_pl_37 rfl) (S_one 30 (v := .agg (cTR tZ)) (.aggC (.cons (.refl _) (.cons (.refl _) (.cons (.refl _) (.cons (.nil _) (.refl _)))))) (Mi rfl (S_st (j := 0) (cs' := [.I tZ.Kind, .I tZ.At, .str tZ.Name, .sl 2 (List.map cP tZ.Pairs) 0, .str tZ.Text, .I tZ.Refs]) ok rfl rfl rfl hi1 rfl ty_sz_37 rfl rfl (fun ok => Ai rfl (Ai rfl (Sn (WP_ret ?_))))))))
  with_reducible repeat first | apply Exit.sr | apply Exit.br | apply Exit.jr
  refine C_ret (fn := Tryz.f40) rfl (.cell rfl (ld_ptr (j := 0) ok rfl hi1 (p_agg (vs := [.I tZ.Kind, .I tZ.At, .str tZ.Name, .sl 2 (List.map cP tZ.Pairs) 0, .str tZ.Text, .I tZ.Refs]) ty_ag_37 ty_sz_37 rfl rfl)) (.tmp (v := .I 0) rfl (.tmp (v := .I x2.2.2) rfl .nil))) ?_
  exact ⟨_, _, (.refl _), ok.wh, _, F_some hF, rfl, rfl⟩
 ·refine WP_skip (C_seq (C_reg (mdl [(10, 1)]) (Ms rfl (S_bld (v := .agg [.I 2, .I 0, .str x2.1, .snil, .str nB, .I 0]) (b_st ty_zc_37 ty_pl_37 rfl) (S_all1 ok rfl ty_zc_37 ?_)))))
  intro i4 hi4 ok
  refine S_st (j := 0) (cs' := [.I 2, .I 0, .str x2.1, .snil, .str nB, .I 0]) ok rfl rfl rfl hi4 rfl ty_sz_37 rfl rfl (fun ok => S_ghostO 0 3 2 (fun r5 => [.I 2, .I 0, .str x2.1, .sl 2 (List.map cP nP) r5, .str nB, .I 0]) ok rfl hi4 rfl (fun _ => rfl) ?_)
  intro r5 hr5 ok
  refine Sn (WP_block ?_)
  refine C_loop (σ := Int × Int × LB × (List TP) × LB × Int × Int × Int × Int × LB × (List TP) × LB × Int) hF (fun (v : Int × Int × LB × (List TP) × LB × Int × Int × Int × Int × LB × (List TP) × LB × Int) s' => match v with | (a6, a7, a8, a9, a10, a11, a12, a13, a14, a15, a16, a18, a19) => ∃ g17 : Nat, g17 ≠ 0 ∧ OK h [(g17, .room), (i4, .cells [.I a13, .I a14, .str a15, .sl 2 (List.map cP a16) g17, .str a18, .I a19]), (i1, .cells [.I a6, .I a7, .str a8, .sl 2 (List.map cP a9) 0, .str a10, .I a11])] ∧ WS s' ⟨mkSl 107 [(0, .str p0), (4, .ptr i1 0), (8, .I a12), (10, .ptr i4 0)], Hp h [(g17, .room), (i4, .cells [.I a13, .I a14, .str a15, .sl 2 (List.map cP a16) g17, .str a18, .I a19]), (i1, .cells [.I a6, .I a7, .str a8, .sl 2 (List.map cP a9) 0, .str a10, .I a11])]⟩) ?_ ?_
  ·have hwo : WO [(r5, .room), (i4, .cells [.I 2, .I 0, .str x2.1, .sl 2 (List.map cP nP) r5, .str nB, .I 0]), (i1, .cells [.I 0, .I 0, .str nB, .snil, .str nB, .I 0])] [(r5, .room), (i4, .cells [.I 2, .I 0, .str x2.1, .sl 2 (List.map cP nP) r5, .str nB, .I 0]), (i1, .cells [.I 0, .I 0, .str nB, .sl 2 (List.map cP nP) 0, .str nB, .I 0])] := (.keep (.keep (.weak (.cons (.refl _) (.cons (.refl _) (.cons (.refl _) (.cons (.nil _) (.refl _))))) .nil)))
   exact ⟨r5, hr5, (hwo.spec ok).1, WS.mk' (.k (.k (.k (.k .nil)))) ok hwo⟩
  ·rintro G20 hG21 rec22 ⟨a6, a7, a8, a9, a10, a11, a12, a13, a14, a15, a16, a18, a19⟩ s' ih23 hF ⟨g17, hg17, ok, hws⟩
   refine WP_ws hws ?_
   clear hws s'
   rw [Fc_tag_l0] at hF
   refine WP_block (CR (Ms rfl (Mi rfl (S_call (Fc_White_ok _ hF fun x24 _ hF => (Ai rfl (Sn (C_seq (CR (Ms rfl (Mi rfl (S_call (Fc_Stands_ok _ hF fun x25 _ hF => (Sn ?_)) (.refl _))))))))) (.refl _)))))
   refine C_if (b := x25) rfl hF (fun hb26 hF => ?_) (fun hb26 hF => ?_)
   ·refine CR (S_ldP (j := 1) ok rfl rfl rfl hi4 (p_agg (vs := [.I a13, .I a14, .str a15, .sl 2 (List.map cP a16) g17, .str a18, .I a19]) ty_ag_37 ty_sz_37 rfl rfl) (S_one 40 (v := .agg (cTR (⟨a13, a14, a15, a16, a18, a19⟩ : TR))) (.aggC (.cons (.refl _) (.cons (.refl _) (.cons (.refl _) (.cons (.zero _ _ _) (.refl _)))))) (Mi rfl (S_bin rfl rfl (ev_add ..) (S_st (j := 2) (cs' := [.I (⟨a13, a14, a15, a16, a18, a19⟩ : TR).Kind, .I (⟨a13, a14, a15, a16, a18, a19⟩ : TR).At, .str (⟨a13, a14, a15, a16, a18, a19⟩ : TR).Name, .sl 2 (List.map cP (⟨a13, a14, a15, a16, a18, a19⟩ : TR).Pairs) 0, .str (⟨a13, a14, a15, a16, a18, a19⟩ : TR).Text, .I (⟨a13, a14, a15, a16, a18, a19⟩ : TR).Refs]) ok rfl rfl rfl hi1 rfl ty_sz_37 rfl rfl (fun ok => Ai rfl (Ai rfl (Sn (WP_ret ?_)))))))))
    replace hF := hG21 _ (F_some hF)
    with_reducible repeat first | apply Exit.sr | apply Exit.br | apply Exit.jr
    refine C_ret (fn := Tryz.f40) rfl (.cell rfl (ld_ptr (j := 2) ok rfl hi1 (p_agg (vs := [.I (⟨a13, a14, a15, a16, a18, a19⟩ : TR).Kind, .I (⟨a13, a14, a15, a16, a18, a19⟩ : TR).At, .str (⟨a13, a14, a15, a16, a18, a19⟩ : TR).Name, .sl 2 (List.map cP (⟨a13, a14, a15, a16, a18, a19⟩ : TR).Pairs) 0, .str (⟨a13, a14, a15, a16, a18, a19⟩ : TR).Text, .I (⟨a13, a14, a15, a16, a18, a19⟩ : TR).Refs]) ty_ag_37 ty_sz_37 rfl rfl)) (.tmp (v := .I (IntKind.wrap .i64 (x24 + (1 : Int)))) rfl (.tmp (v := .I 0) rfl .nil))) ?_
    exact ⟨_, _, (.refl _), ok.wh, _, F_some hF, rfl, rfl⟩
   ·refine WP_skip (C_seq (CR (Ms rfl (Mi rfl (S_call (Fc_Stands_ok _ hF fun x27 _ hF => (Sn ?_)) (.refl _))))))
    refine C_if (b := x27) rfl hF (fun hb28 hF => ?_) (fun hb28 hF => ?_)
    ·refine CR (S_faP rfl ty_fd_37_0 ty_sz_3 (S_st (j := 1) (cs' := [.I 4, .I a14, .str a15, .sl 2 (List.map cP a16) g17, .str a18, .I a19]) ok rfl rfl rfl hi4 rfl ty_sz_3 rfl rfl (fun ok => Sn (CR (S_ldP (j := 1) ok rfl rfl rfl hi4 (p_agg (vs := [.I 4, .I a14, .str a15, .sl 2 (List.map cP a16) g17, .str a18, .I a19]) ty_ag_37 ty_sz_37 rfl rfl) (S_one 47 (v := .agg (cTR (⟨(4 : Int), a14, a15, a16, a18, a19⟩ : TR))) (.aggC (.cons (.refl _) (.cons (.refl _) (.cons (.refl _) (.cons (.zero _ _ _) (.refl _)))))) (Mi rfl (S_bin rfl rfl (ev_add ..) (S_st (j := 2) (cs' := [.I (⟨(4 : Int), a14, a15, a16, a18, a19⟩ : TR).Kind, .I (⟨(4 : Int), a14, a15, a16, a18, a19⟩ : TR).At, .str (⟨(4 : Int), a14, a15, a16, a18, a19⟩ : TR).Name, .sl 2 (List.map cP (⟨(4 : Int), a14, a15, a16, a18, a19⟩ : TR).Pairs) 0, .str (⟨(4 : Int), a14, a15, a16, a18, a19⟩ : TR).Text, .I (⟨(4 : Int), a14, a15, a16, a18, a19⟩ : TR).Refs]) ok rfl rfl rfl hi1 rfl ty_sz_37 rfl rfl (fun ok => Ai rfl (Ai rfl (Sn (WP_ret ?_)))))))))))))
     replace hF := hG21 _ (F_some hF)
     with_reducible repeat first | apply Exit.sr | apply Exit.br | apply Exit.jr
     refine C_ret (fn := Tryz.f40) rfl (.cell rfl (ld_ptr (j := 2) ok rfl hi1 (p_agg (vs := [.I (⟨(4 : Int), a14, a15, a16, a18, a19⟩ : TR).Kind, .I (⟨(4 : Int), a14, a15, a16, a18, a19⟩ : TR).At, .str (⟨(4 : Int), a14, a15, a16, a18, a19⟩ : TR).Name, .sl 2 (List.map cP (⟨(4 : Int), a14, a15, a16, a18, a19⟩ : TR).Pairs) 0, .str (⟨(4 : Int), a14, a15, a16, a18, a19⟩ : TR).Text, .I (⟨(4 : Int), a14, a15, a16, a18, a19⟩ : TR).Refs]) ty_ag_37 ty_sz_37 rfl rfl)) (.tmp (v := .I (IntKind.wrap .i64 (x24 + (2 : Int)))) rfl (.tmp (v := .I 0) rfl .nil))) ?_
     exact ⟨_, _, (.refl _), ok.wh, _, F_some hF, rfl, rfl⟩
    ·refine WP_skip (C_seq (CR (Mi rfl (Mi rfl (S_bin rfl rfl (ev_eql ..) (Sn ?_))))))
     refine C_if (b := (x24 == a12)) rfl hF (fun hb29 hF => ?_) (fun hb29 hF => ?_)
     ·refine CR (S_bld (v := .agg [.I 0, .I 0, .str nB, .snil, .str nB, .I 0]) (b_st ty_zc_37 ty_pl_37 rfl) (S_one 53 (v := .agg (cTR tZ)) (.aggC (.cons (.refl _) (.cons (.refl _) (.cons (.refl _) (.cons (.nil _) (.refl _)))))) (S_st (j := 2) (cs' := [.I tZ.Kind, .I tZ.At, .str tZ.Name, .sl 2 (List.map cP tZ.Pairs) 0, .str tZ.Text, .I tZ.Refs]) ok rfl rfl rfl hi1 rfl ty_sz_37 rfl rfl (fun ok => Ai rfl (Ai rfl (Sn (WP_ret ?_)))))))
      replace hF := hG21 _ (F_some hF)
      with_reducible repeat first | apply Exit.sr | apply Exit.br | apply Exit.jr
      refine C_ret (fn := Tryz.f40) rfl (.cell rfl (ld_ptr (j := 2) ok rfl hi1 (p_agg (vs := [.I tZ.Kind, .I tZ.At, .str tZ.Name, .sl 2 (List.map cP tZ.Pairs) 0, .str tZ.Text, .I tZ.Refs]) ty_ag_37 ty_sz_37 rfl rfl)) (.tmp (v := .I 0) rfl (.tmp (v := .I 23) rfl .nil))) ?_
      exact ⟨_, _, (.refl _), ok.wh, _, F_some hF, rfl, rfl⟩
     ·refine WP_skip (CR (Ms rfl (Mi rfl (S_call (Fc_written_ok _ hF fun x30 _ hF => (S_m (v := .tup _) rfl (S_ext rfl rfl (S_ext rfl rfl (S_ext rfl rfl (S_a (v := .str _) rfl (Ai rfl (Ai rfl (Sn (C_seq (CR (Mi rfl (S_bin rfl rfl (ev_neq ..) (Sn ?_)))))))))))))) (.refl _)))))
      refine C_if (b := (x30.2.2 != (0 : Int))) rfl hF (fun hb31 hF => ?_) (fun hb31 hF => ?_)
      ·refine CR (S_bld (v := .agg [.I 0, .I 0, .str nB, .snil, .str nB, .I 0]) (b_st ty_zc_37 ty_pl_37 rfl) (S_one 63 (v := .agg (cTR tZ)) (.aggC (.cons (.refl _) (.cons (.refl _) (.cons (.refl _) (.cons (.nil _) (.refl _)))))) (Mi rfl (S_st (j := 2) (cs' := [.I tZ.Kind, .I tZ.At, .str tZ.Name, .sl 2 (List.map cP tZ.Pairs) 0, .str tZ.Text, .I tZ.Refs]) ok rfl rfl rfl hi1 rfl ty_sz_37 rfl rfl (fun ok => Ai rfl (Ai rfl (Sn (WP_ret ?_))))))))
       replace hF := hG21 _ (F_some hF)
       with_reducible repeat first | apply Exit.sr | apply Exit.br | apply Exit.jr
       refine C_ret (fn := Tryz.f40) rfl (.cell rfl (ld_ptr (j := 2) ok rfl hi1 (p_agg (vs := [.I tZ.Kind, .I tZ.At, .str tZ.Name, .sl 2 (List.map cP tZ.Pairs) 0, .str tZ.Text, .I tZ.Refs]) ty_ag_37 ty_sz_37 rfl rfl)) (.tmp (v := .I 0) rfl (.tmp (v := .I x30.2.2) rfl .nil))) ?_
       exact ⟨_, _, (.refl _), ok.wh, _, F_some hF, rfl, rfl⟩
      ·refine WP_skip (CR (Ms rfl (Mi rfl (S_call (Fc_value_ok _ hF fun x32 _ hF => (S_m (v := .tup _) rfl (S_ext rfl rfl (S_ext rfl rfl (S_a (v := .str _) rfl (Ai rfl (Sn (C_seq (CR (Mi rfl (S_bin rfl rfl (ev_lss ..) (Sn ?_)))))))))))) (.refl _)))))
       refine C_if (b := (decide (x32.2 < (0 : Int)))) rfl hF (fun hb33 hF => ?_) (fun hb33 hF => ?_)
       ·refine CR (S_bld (v := .agg [.I 0, .I 0, .str nB, .snil, .str nB, .I 0]) (b_st ty_zc_37 ty_pl_37 rfl) (S_one 73 (v := .agg (cTR tZ)) (.aggC (.cons (.refl _) (.cons (.refl _) (.cons (.refl _) (.cons (.nil _) (.refl _)))))) (S_st (j := 2) (cs' := [.I tZ.Kind, .I tZ.At, .str tZ.Name, .sl 2 (List.map cP tZ.Pairs) 0, .str tZ.Text, .I tZ.Refs]) ok rfl rfl rfl hi1 rfl ty_sz_37 rfl rfl (fun ok => Ai rfl (Ai rfl (Sn (WP_ret ?_)))))))
        replace hF := hG21 _ (F_some hF)
        with_reducible repeat first | apply Exit.sr | apply Exit.br | apply Exit.jr
        refine C_ret (fn := Tryz.f40) rfl (.cell rfl (ld_ptr (j := 2) ok rfl hi1 (p_agg (vs := [.I tZ.Kind, .I tZ.At, .str tZ.Name, .sl 2 (List.map cP tZ.Pairs) 0, .str tZ.Text, .I tZ.Refs]) ty_ag_37 ty_sz_37 rfl rfl)) (.tmp (v := .I 0) rfl (.tmp (v := .I 23) rfl .nil))) ?_
        exact ⟨_, _, (.refl _), ok.wh, _, F_some hF, rfl, rfl⟩
       ·refine WP_skip (CR (Ms rfl (S_byt0 rfl rfl ty_sl_22 ty_st_9 ty_ki_5 (S_call (Fb_Read_ok _ hF fun x34 _ hF => (S_m (v := .tup _) rfl (S_ext rfl rfl (S_ext rfl rfl (S_ext rfl rfl (S_a (v := .str _) rfl (Ai rfl (Ai rfl (Sn (C_seq (CR (Mi rfl (S_bin rfl rfl (ev_neq ..) (Sn ?_)))))))))))))) (.refl _)))))
        refine C_if (b := (x34.2.2 != (0 : Int))) rfl hF (fun hb35 hF => ?_) (fun hb35 hF => ?_)
        ·refine CR (S_bld (v := .agg [.I 0, .I 0, .str nB, .snil, .str nB, .I 0]) (b_st ty_zc_37 ty_pl_37 rfl) (S_one 83 (v := .agg (cTR tZ)) (.aggC (.cons (.refl _) (.cons (.refl _) (.cons (.refl _) (.cons (.nil _) (.refl _)))))) (Mi rfl (S_st (j := 2) (cs' := [.I tZ.Kind, .I tZ.At, .str tZ.Name, .sl 2 (List.map cP tZ.Pairs) 0, .str tZ.Text, .I tZ.Refs]) ok rfl rfl rfl hi1 rfl ty_sz_37 rfl rfl (fun ok => Ai rfl (Ai rfl (Sn (WP_ret ?_))))))))
         replace hF := hG21 _ (F_some hF)
         with_reducible repeat first | apply Exit.sr | apply Exit.br | apply Exit.jr
         refine C_ret (fn := Tryz.f40) rfl (.cell rfl (ld_ptr (j := 2) ok rfl hi1 (p_agg (vs := [.I tZ.Kind, .I tZ.At, .str tZ.Name, .sl 2 (List.map cP tZ.Pairs) 0, .str tZ.Text, .I tZ.Refs]) ty_ag_37 ty_sz_37 rfl rfl)) (.tmp (v := .I 0) rfl (.tmp (v := .I x34.2.2) rfl .nil))) ?_
         exact ⟨_, _, (.refl _), ok.wh, _, F_some hF, rfl, rfl⟩
        ·refine WP_skip ?_
         refine C_join hF (fun (v : Int × Int × LB × (List TP) × LB × Int) s' => match v with | (a47, a48, a49, a50, a51, a52) => OK h [(g17, .room), (i4, .cells [.I a13, .I a14, .str a15, .sl 2 (List.map cP a16) g17, .str a18, .I a19]), (i1, .cells [.I a47, .I a48, .str a49, .sl 2 (List.map cP a50) 0, .str a51, .I a52])] ∧ WS s' ⟨mkSl 107 [(0, .str p0), (4, .ptr i1 0), (10, .ptr i4 0), (12, .str x30.1), (16, .I x32.2), (17, .str x34.1)], Hp h [(g17, .room), (i4, .cells [.I a13, .I a14, .str a15, .sl 2 (List.map cP a16) g17, .str a18, .I a19]), (i1, .cells [.I a47, .I a48, .str a49, .sl 2 (List.map cP a50) 0, .str a51, .I a52])]⟩) (fun J53 hF => ?_) ?_
         ·refine CR (S_faP rfl ty_fd_37_3 ty_sz_35 (S_ldP (j := 1) ok rfl rfl rfl hi4 (p_one (v := .sl 2 (List.map cP a16) g17) ty_ag_35 ty_sz_35 rfl) (S_one 86 (v := .sl 2 (List.map cP a16) 0) (.zero _ _ _) (S_lenL rfl ty_sl_35 (Mi rfl (Sn (WP_block ?_)))))))
          refine C_loop (σ := Int × Int × LB × (List TP) × LB × Int × Int) hF (fun (v : Int × Int × LB × (List TP) × LB × Int × Int) s' => match v with | (a54, a55, a56, a57, a58, a59, a60) => OK h [(g17, .room), (i4, .cells [.I a13, .I a14, .str a15, .sl 2 (List.map cP a16) g17, .str a18, .I a19]), (i1, .cells [.I a54, .I a55, .str a56, .sl 2 (List.map cP a57) 0, .str a58, .I a59])] ∧ WS s' ⟨mkSl 107 [(0, .str p0), (4, .ptr i1 0), (10, .ptr i4 0), (12, .str x30.1), (16, .I x32.2), (17, .str x34.1), (86, .sl 2 (List.map cP a16) 0), (87, .I (a16.length : Int)), (88, .I a60)], Hp h [(g17, .room), (i4, .cells [.I a13, .I a14, .str a15, .sl 2 (List.map cP a16) g17, .str a18, .I a19]), (i1, .cells [.I a54, .I a55, .str a56, .sl 2 (List.map cP a57) 0, .str a58, .I a59])]⟩) ?_ ?_
          ·exact ⟨ok, WS.mk' (.k (.k (.k (.k (.k (.k (.k (.k (.k .nil))))))))) ok (.refl _)⟩
          ·rintro G61 hG62 rec63 ⟨a54, a55, a56, a57, a58, a59, a60⟩ s' ih64 hF ⟨ok, hws⟩
           refine WP_ws hws ?_
           clear hws s'
           rw [Fc_tag_l1] at hF
           refine CR (S_bin rfl rfl (ev_lss ..) (Sn (C_seq ?_)))
           refine C_if (b := (decide (a60 < (a16.length : Int)))) rfl hF (fun hb65 hF => ?_) (fun hb65 hF => ?_)
           ·refine WP_skip (C_seq (WP_block (C_seq (C_reg (mdl [(20, 1)]) (S_ix rfl rfl ty_sl_35 ty_sz_57 hF (fun x66 _ hF => S_ldQ rfl (p_agg (vs := cP x66) ty_ag_57 ty_sz_57 rfl rfl) (S_all1 ok rfl ty_zc_57 ?_)))))))
            intro i67 hi67 ok
            refine S_st (j := 0) (cs' := [.str x66.Name, .str x66.Value]) ok rfl rfl rfl hi67 rfl ty_sz_57 rfl rfl (fun ok => Sn (CR (S_faP rfl ty_fd_57_0 ty_sz_9 (S_ldP (j := 0) ok rfl rfl rfl hi67 (p_one (v := .str x66.Name) ty_ag_9 ty_sz_9 rfl) (Ms rfl (S_bin rfl rfl e_seql (Sn ?_)))))))
            refine C_if (b := (x66.Name == x30.1)) rfl hF (fun hb68 hF => ?_) (fun hb68 hF => ?_)
            ·refine CR (S_bld (v := .agg [.I 0, .I 0, .str nB, .snil, .str nB, .I 0]) (b_st ty_zc_37 ty_pl_37 rfl) (S_one 96 (v := .agg (cTR tZ)) (.aggC (.cons (.refl _) (.cons (.refl _) (.cons (.refl _) (.cons (.nil _) (.refl _)))))) (S_st (j := 3) (cs' := [.I tZ.Kind, .I tZ.At, .str tZ.Name, .sl 2 (List.map cP tZ.Pairs) 0, .str tZ.Text, .I tZ.Refs]) ok rfl rfl rfl hi1 rfl ty_sz_37 rfl rfl (fun ok => Ai rfl (Ai rfl (Sn (WP_ret ?_)))))))
             replace hF := hG62 _ (F_some hF)
             replace hF := hG21 _ (F_some hF)
             with_reducible repeat first | apply Exit.sr | apply Exit.br | apply Exit.jr
             refine C_ret (fn := Tryz.f40) rfl (.cell rfl (ld_ptr (j := 3) ok rfl hi1 (p_agg (vs := [.I tZ.Kind, .I tZ.At, .str tZ.Name, .sl 2 (List.map cP tZ.Pairs) 0, .str tZ.Text, .I tZ.Refs]) ty_ag_37 ty_sz_37 rfl rfl)) (.tmp (v := .I 0) rfl (.tmp (v := .I 27) rfl .nil))) ?_
             exact ⟨_, _, (.refl _), ok.wh, _, F_some hF, rfl, rfl⟩
            ·refine WP_skip (C_reg (mdl []) (S_bin rfl rfl (ev_add ..) (Mi rfl (Sn (ih64 (a54, a55, a56, a57, a58, a59, (IntKind.wrap .i64 (a60 + (1 : Int)))) _ hF ?_)))))
             have hwo : WO [(i67, .cells [.str x66.Name, .str x66.Value]), (g17, .room), (i4, .cells [.I a13, .I a14, .str a15, .sl 2 (List.map cP a16) g17, .str a18, .I a19]), (i1, .cells [.I a54, .I a55, .str a56, .sl 2 (List.map cP a57) 0, .str a58, .I a59])] [(g17, .room), (i4, .cells [.I a13, .I a14, .str a15, .sl 2 (List.map cP a16) g17, .str a18, .I a19]), (i1, .cells [.I a54, .I a55, .str a56, .sl 2 (List.map cP a57) 0, .str a58, .I a59])] := (.drop (.keep (.keep (.keep .nil))))
             exact ⟨(hwo.spec ok).1, WS.mk' (.k (.k (.k (.k (.k (.k (.k (.k (.k .nil))))))))) ok hwo⟩
           ·refine WP_exit ?_
            simp only [Exit.sel, Exit.blk, Exit.jmp, if_true, if_false, reduceIte, Nat.reduceEqDiff, Nat.succ_ne_zero, Nat.zero_ne_one, Nat.one_ne_zero]
            replace hF := hG62 _ (F_some hF)
            exact ⟨(a54, a55, a56, a57, a58, a59), hF, ok, WS.mk' (.k (.k (.k (.k (.k (.k .nil)))))) ok (.refl _)⟩
         ·rintro ⟨a47, a48, a49, a50, a51, a52⟩ s' hF ⟨ok, hws⟩
          refine WP_ws hws ?_
          clear hws s'
          refine C_seq (C_reg (mdl [(104, 2)]) (S_faP rfl ty_fd_37_3 ty_sz_35 (S_ldP (j := 1) ok rfl rfl rfl hi4 (p_one (v := .sl 2 (List.map cP a16) g17) ty_ag_35 ty_sz_35 rfl) (Ms rfl (Ms rfl (S_bld (v := .agg (cP (⟨x30.1, x34.1⟩ : TP))) (b_st ty_zc_57 ty_pl_57 rfl) ?_))))))
          refine S_lit0 (cs := [.str (⟨x30.1, x34.1⟩ : TP).Name, .str (⟨x30.1, x34.1⟩ : TP).Value]) (es := (List.map cP [(⟨x30.1, x34.1⟩ : TP)])) rfl ty_el_35 rfl (by kernel_rfl) (by kernel_rfl) ?_
          refine S_app (j := 0) ok rfl rfl rfl rfl hg17 ty_el_35 ty_ni_35 hF ?_
          intro r69 hr69 ok hF
          refine S_faP rfl ty_fd_37_3 ty_sz_35 (S_st (j := 1) (cs' := [.I a13, .I a14, .str a15, .sl 2 (List.map cP (a16 ++ [(⟨x30.1, x34.1⟩ : TP)])) r69, .str a18, .I a19]) ok rfl rfl rfl hi4 rfl ty_sz_35 rfl rfl (fun ok => Sn (C_reg (mdl []) (Mi rfl (Ai rfl (Sn (ih23 (a47, a48, a49, a50, a51, a52, x32.2, a13, a14, a15, (a16 ++ [(⟨x30.1, x34.1⟩ : TP)]), a18, a19) _ hF ?_)))))))
          exact ⟨r69, hr69, ok, WS.mk' (.k (.k (.k (.k .nil)))) ok (.refl _)⟩
theorem Fc_tag_ok {β : Type} {f : TR × Int × Int → Option β} {G : β → Prop} {R : D → Heap → Prop} {p0 : LB} {p1 : Int} (h : Heap) (hF : OptP ((Fc_tag p0 p1).bind f) G) (hk : ∀ r, Fc_tag p0 p1 = some r → OptP (f r) G → R (.tup [.agg (cTR r.1), .I r.2.1, .I r.2.2]) h) : CallsA Tryz.prog 40 [.str p0, .I p1] h R := by
 obtain ⟨r0, hr, hF⟩ := F_bind hF
 refine (Fc_tag_w (G := fun r => r = r0) p0 p1 h ⟨r0, hr, rfl⟩).mono ?_
 rintro _ _ ⟨r, rfl, rfl, rfl⟩
 exact hk _ hr hF
theorem Fc_One_w (p0 : LB) (p1 : Int) {G : TR × Int × Int → Prop} (h : Heap) (hF : OptP (Fc_One p0 p1) G) : CallsA Tryz.prog 17 [.str p0, .I p1] h fun d h' => ∃ r, G r ∧ d = .tup [.agg (cTR r.1), .I r.2.1, .I r.2.2] ∧ h' = h := by
 refine CallsA.ret (C_body Tryz.func17 rfl en_17 Tryz.ntmps17 rfl (fun ok => ?_))
 rw [Fc_One] at hF
 refine C_seq (C_reg (mdl [(4, 1)]) (S_all1 ok rfl ty_zc_37 ?_))
 intro i1 hi1 ok
 refine Ai rfl (Ai rfl (Sn (C_seq (WP_block (CR (Mi rfl (S_bin rfl rfl (ev_eql ..) (Mb rfl ?_))))))))
 refine S_twoJ 3 24 hF (fun J3 hb2 hF => ?_) (fun J3 hb2 hF => ?_) (fun v4 hF => ?_)
 ·refine Sx rfl rfl hb2 (Ms rfl (Sn (Sx rfl rfl hb2 (S_call (Fc_Stands_ok _ hF fun x5 _ hF => (Sn (S_pickT (v := .bool _) rfl hb2 rfl (Sn ?_)))) (.refl _)))))
  refine ⟨_, hF, .hd (.refl _) ?_⟩
  repeat first | with_reducible exact .refl _ | refine .add ?_ rfl
 ·refine So rfl rfl hb2 (So rfl rfl hb2 (S_pickF (v := .bool _) rfl hb2 rfl (Sn ?_)))
  refine ⟨_, hF, .hd (.refl _) ?_⟩
  repeat first | with_reducible exact .refl _ | refine .add ?_ rfl
 ·refine Mb rfl ?_
  refine S_twoJ 4 29 hF (fun J7 hb6 hF => ?_) (fun J7 hb6 hF => ?_) (fun v8 hF => ?_)
  ·refine Sx rfl rfl hb6 (Ms rfl (Sn (Sx rfl rfl hb6 (S_call (Fc_White_ok _ hF fun x9 _ hF => (Sn (Sx rfl rfl hb6 (S_bin rfl rfl (ev_gtr ..) (Sn (S_pickT (v := .bool _) rfl hb6 rfl (Sn ?_))))))) (.refl _)))))
   refine ⟨_, hF, .hd (.refl _) ?_⟩
   repeat first | with_reducible exact .refl _ | refine .add ?_ rfl
  ·refine So rfl rfl hb6 (So rfl rfl hb6 (So rfl rfl hb6 (S_pickF (v := .bool _) rfl hb6 rfl (Sn ?_))))
   refine ⟨_, hF, .hd (.refl _) ?_⟩
   repeat first | with_reducible exact .refl _ | refine .add ?_ rfl
  ·refine Ab rfl (Sn ?_)
   refine C_if (b := v8) rfl hF (fun hb10 hF => ?_) (fun hb10 hF => ?_)
   ·refine CR (Ms rfl (S_call (Fc_declaration_ok _ hF fun x11 _ hF => (S_ext rfl rfl (S_ext rfl rfl (S_ext rfl rfl (S_st (j := 0) (cs' := [.I x11.1.Kind, .I x11.1.At, .str x11.1.Name, .sl 2 (List.map cP x11.1.Pairs) 0, .str x11.1.Text, .I x11.1.Refs]) ok rfl rfl rfl hi1 rfl ty_sz_37 rfl rfl (fun ok => Ai rfl (Ai rfl (Sn (WP_ret ?_))))))))) (.refl _)))
    with_reducible repeat first | apply Exit.sr | apply Exit.br | apply Exit.jr
    refine C_ret (fn := Tryz.f17) rfl (.cell rfl (ld_ptr (j := 0) ok rfl hi1 (p_agg (vs := [.I x11.1.Kind, .I x11.1.At, .str x11.1.Name, .sl 2 (List.map cP x11.1.Pairs) 0, .str x11.1.Text, .I x11.1.Refs]) ty_ag_37 ty_sz_37 rfl rfl)) (.tmp (v := .I x11.2.1) rfl (.tmp (v := .I x11.2.2) rfl .nil))) ?_
    exact ⟨_, _, (.refl _), ok.wh, _, F_some hF, rfl, rfl⟩
   ·refine CR (Ms rfl (Mi rfl (S_call (Fc_Stands_ok _ hF fun x12 _ hF => (Ab rfl (Sn ?_))) (.refl _))))
    refine C_if (b := x12) rfl hF (fun hb13 hF => ?_) (fun hb13 hF => ?_)
    ·refine CR (Ms rfl (Mi rfl (S_bin rfl rfl (ev_add ..) (S_call (Fc_Find_ok _ hF fun x14 _ hF => (Ai rfl (Sn (C_seq (CR (Mi rfl (S_bin rfl rfl (ev_lss ..) (Mb rfl ?_)))))))) (.refl _)))))
     refine S_twoJ 5 50 hF (fun J16 hb15 hF => ?_) (fun J16 hb15 hF => ?_) (fun v17 hF => ?_)
     ·refine So rfl rfl hb15 (So rfl rfl hb15 (So rfl rfl hb15 (So rfl rfl hb15 (S_pickT (v := .bool _) rfl hb15 rfl (Sn ?_)))))
      refine ⟨_, hF, .hd (.refl _) ?_⟩
      repeat first | with_reducible exact .refl _ | refine .add ?_ rfl
     ·refine Sx rfl rfl hb15 (Ms rfl (Sn (Sx rfl rfl hb15 (Mi rfl (Sn (Sx rfl rfl hb15 (S_call (Fc_Stands_ok _ hF fun x18 _ hF => (Sn (Sx rfl rfl hb15 (S_un rfl (ev_not _) (Sn (S_pickF (v := .bool _) rfl hb15 rfl (Sn ?_))))))) (.refl _))))))))
      refine ⟨_, hF, .hd (.refl _) ?_⟩
      repeat first | with_reducible exact .refl _ | refine .add ?_ rfl
     ·refine Sn ?_
      refine C_if (b := v17) rfl hF (fun hb19 hF => ?_) (fun hb19 hF => ?_)
      ·refine CR (S_bld (v := .agg [.I 0, .I 0, .str nB, .snil, .str nB, .I 0]) (b_st ty_zc_37 ty_pl_37 rfl) (S_one 51 (v := .agg (cTR tZ)) (.aggC (.cons (.refl _) (.cons (.refl _) (.cons (.refl _) (.cons (.nil _) (.refl _)))))) (S_st (j := 0) (cs' := [.I tZ.Kind, .I tZ.At, .str tZ.Name, .sl 2 (List.map cP tZ.Pairs) 0, .str tZ.Text, .I tZ.Refs]) ok rfl rfl rfl hi1 rfl ty_sz_37 rfl rfl (fun ok => Ai rfl (Ai rfl (Sn (WP_ret ?_)))))))
       with_reducible repeat first | apply Exit.sr | apply Exit.br | apply Exit.jr
       refine C_ret (fn := Tryz.f17) rfl (.cell rfl (ld_ptr (j := 0) ok rfl hi1 (p_agg (vs := [.I tZ.Kind, .I tZ.At, .str tZ.Name, .sl 2 (List.map cP tZ.Pairs) 0, .str tZ.Text, .I tZ.Refs]) ty_ag_37 ty_sz_37 rfl rfl)) (.tmp (v := .I 0) rfl (.tmp (v := .I 23) rfl .nil))) ?_
       exact ⟨_, _, (.refl _), ok.wh, _, F_some hF, rfl, rfl⟩
      ·refine WP_skip (CR (Ms rfl (Mi rfl (S_bin rfl rfl (ev_add ..) (Mi rfl (S_slS rfl ty_st_9 (bd_at rfl) (bd_at rfl) hF (fun x20 _ hF => S_bld (v := .agg [.I 7, .I 0, .str nB, .snil, .str x20, .I 0]) (b_st ty_zc_37 ty_pl_37 rfl) (S_one 57 (v := .agg (cTR (⟨(7 : Int), (0 : Int), nB, nP, x20, (0 : Int)⟩ : TR))) (.aggC (.cons (.refl _) (.cons (.refl _) (.cons (.refl _) (.cons (.nil _) (.refl _)))))) (Mi rfl (S_bin rfl rfl (ev_add ..) (S_st (j := 0) (cs' := [.I (⟨(7 : Int), (0 : Int), nB, nP, x20, (0 : Int)⟩ : TR).Kind, .I (⟨(7 : Int), (0 : Int), nB, nP, x20, (0 : Int)⟩ : TR).At, .str (⟨(7 : Int), (0 : Int), nB, nP, x20, (0 : Int)⟩ : TR).Name, .sl 2 (List.map cP (⟨(7 : Int), (0 : Int), nB, nP, x20, (0 : Int)⟩ : TR).Pairs) 0, .str (⟨(7 : Int), (0 : Int), nB, nP, x20, (0 : Int)⟩ : TR).Text, .I (⟨(7 : Int), (0 : Int), nB, nP, x20, (0 : Int)⟩ : TR).Refs]) ok rfl rfl rfl hi1 rfl ty_sz_37 rfl rfl (fun ok => Ai rfl (Ai rfl (Sn (WP_ret ?_)))))))))))))))
       with_reducible repeat first | apply Exit.sr | apply Exit.br | apply Exit.jr
       refine C_ret (fn := Tryz.f17) rfl (.cell rfl (ld_ptr (j := 0) ok rfl hi1 (p_agg (vs := [.I (⟨(7 : Int), (0 : Int), nB, nP, x20, (0 : Int)⟩ : TR).Kind, .I (⟨(7 : Int), (0 : Int), nB, nP, x20, (0 : Int)⟩ : TR).At, .str (⟨(7 : Int), (0 : Int), nB, nP, x20, (0 : Int)⟩ : TR).Name, .sl 2 (List.map cP (⟨(7 : Int), (0 : Int), nB, nP, x20, (0 : Int)⟩ : TR).Pairs) 0, .str (⟨(7 : Int), (0 : Int), nB, nP, x20, (0 : Int)⟩ : TR).Text, .I (⟨(7 : Int), (0 : Int), nB, nP, x20, (0 : Int)⟩ : TR).Refs]) ty_ag_37 ty_sz_37 rfl rfl)) (.tmp (v := .I (IntKind.wrap .i64 (x14 + (3 : Int)))) rfl (.tmp (v := .I 0) rfl .nil))) ?_
       exact ⟨_, _, (.refl _), ok.wh, _, F_some hF, rfl, rfl⟩
    ·refine CR (Ms rfl (Mi rfl (S_call (Fc_Stands_ok _ hF fun x21 _ hF => (Ab rfl (Sn ?_))) (.refl _))))
     refine C_if (b := x21) rfl hF (fun hb22 hF => ?_) (fun hb22 hF => ?_)
     ·refine CR (Ms rfl (Mi rfl (S_bin rfl rfl (ev_add ..) (S_call (Fc_Find_ok _ hF fun x23 _ hF => (Ai rfl (Sn (C_seq (CR (Mi rfl (S_bin rfl rfl (ev_lss ..) (Sn ?_)))))))) (.refl _)))))
      refine C_if (b := (decide (x23 < (0 : Int)))) rfl hF (fun hb24 hF => ?_) (fun hb24 hF => ?_)
      ·refine CR (S_bld (v := .agg [.I 0, .I 0, .str nB, .snil, .str nB, .I 0]) (b_st ty_zc_37 ty_pl_37 rfl) (S_one 70 (v := .agg (cTR tZ)) (.aggC (.cons (.refl _) (.cons (.refl _) (.cons (.refl _) (.cons (.nil _) (.refl _)))))) (S_st (j := 0) (cs' := [.I tZ.Kind, .I tZ.At, .str tZ.Name, .sl 2 (List.map cP tZ.Pairs) 0, .str tZ.Text, .I tZ.Refs]) ok rfl rfl rfl hi1 rfl ty_sz_37 rfl rfl (fun ok => Ai rfl (Ai rfl (Sn (WP_ret ?_)))))))
       with_reducible repeat first | apply Exit.sr | apply Exit.br | apply Exit.jr
       refine C_ret (fn := Tryz.f17) rfl (.cell rfl (ld_ptr (j := 0) ok rfl hi1 (p_agg (vs := [.I tZ.Kind, .I tZ.At, .str tZ.Name, .sl 2 (List.map cP tZ.Pairs) 0, .str tZ.Text, .I tZ.Refs]) ty_ag_37 ty_sz_37 rfl rfl)) (.tmp (v := .I 0) rfl (.tmp (v := .I 23) rfl .nil))) ?_
       exact ⟨_, _, (.refl _), ok.wh, _, F_some hF, rfl, rfl⟩
      ·refine WP_skip (CR (Ms rfl (Mi rfl (S_bin rfl rfl (ev_add ..) (Mi rfl (S_slS rfl ty_st_9 (bd_at rfl) (bd_at rfl) hF (fun x25 _ hF => S_bld (v := .agg [.I 6, .I 0, .str nB, .snil, .str x25, .I 0]) (b_st ty_zc_37 ty_pl_37 rfl) (S_one 76 (v := .agg (cTR (⟨(6 : Int), (0 : Int), nB, nP, x25, (0 : Int)⟩ : TR))) (.aggC (.cons (.refl _) (.cons (.refl _) (.cons (.refl _) (.cons (.nil _) (.refl _)))))) (Mi rfl (S_bin rfl rfl (ev_add ..) (S_st (j := 0) (cs' := [.I (⟨(6 : Int), (0 : Int), nB, nP, x25, (0 : Int)⟩ : TR).Kind, .I (⟨(6 : Int), (0 : Int), nB, nP, x25, (0 : Int)⟩ : TR).At, .str (⟨(6 : Int), (0 : Int), nB, nP, x25, (0 : Int)⟩ : TR).Name, .sl 2 (List.map cP (⟨(6 : Int), (0 : Int), nB, nP, x25, (0 : Int)⟩ : TR).Pairs) 0, .str (⟨(6 : Int), (0 : Int), nB, nP, x25, (0 : Int)⟩ : TR).Text, .I (⟨(6 : Int), (0 : Int), nB, nP, x25, (0 : Int)⟩ : TR).Refs]) ok rfl rfl rfl hi1 rfl ty_sz_37 rfl rfl (fun ok => Ai rfl (Ai rfl (Sn (WP_ret ?_)))))))))))))))
       with_reducible repeat first | apply Exit.sr | apply Exit.br | apply Exit.jr
       refine C_ret (fn := Tryz.f17) rfl (.cell rfl (ld_ptr (j := 0) ok rfl hi1 (p_agg (vs := [.I (⟨(6 : Int), (0 : Int), nB, nP, x25, (0 : Int)⟩ : TR).Kind, .I (⟨(6 : Int), (0 : Int), nB, nP, x25, (0 : Int)⟩ : TR).At, .str (⟨(6 : Int), (0 : Int), nB, nP, x25, (0 : Int)⟩ : TR).Name, .sl 2 (List.map cP (⟨(6 : Int), (0 : Int), nB, nP, x25, (0 : Int)⟩ : TR).Pairs) 0, .str (⟨(6 : Int), (0 : Int), nB, nP, x25, (0 : Int)⟩ : TR).Text, .I (⟨(6 : Int), (0 : Int), nB, nP, x25, (0 : Int)⟩ : TR).Refs]) ty_ag_37 ty_sz_37 rfl rfl)) (.tmp (v := .I (IntKind.wrap .i64 (x23 + (3 : Int)))) rfl (.tmp (v := .I 0) rfl .nil))) ?_
       exact ⟨_, _, (.refl _), ok.wh, _, F_some hF, rfl, rfl⟩
     ·refine CR (Ms rfl (Mi rfl (S_call (Fc_Stands_ok _ hF fun x26 _ hF => (Ab rfl (Sn ?_))) (.refl _))))
      refine C_if (b := x26) rfl hF (fun hb27 hF => ?_) (fun hb27 hF => ?_)
      ·refine CR (S_bld (v := .agg [.I 0, .I 0, .str nB, .snil, .str nB, .I 0]) (b_st ty_zc_37 ty_pl_37 rfl) (S_one 83 (v := .agg (cTR tZ)) (.aggC (.cons (.refl _) (.cons (.refl _) (.cons (.refl _) (.cons (.nil _) (.refl _)))))) (S_st (j := 0) (cs' := [.I tZ.Kind, .I tZ.At, .str tZ.Name, .sl 2 (List.map cP tZ.Pairs) 0, .str tZ.Text, .I tZ.Refs]) ok rfl rfl rfl hi1 rfl ty_sz_37 rfl rfl (fun ok => Ai rfl (Ai rfl (Sn (WP_ret ?_)))))))
       with_reducible repeat first | apply Exit.sr | apply Exit.br | apply Exit.jr
       refine C_ret (fn := Tryz.f17) rfl (.cell rfl (ld_ptr (j := 0) ok rfl hi1 (p_agg (vs := [.I tZ.Kind, .I tZ.At, .str tZ.Name, .sl 2 (List.map cP tZ.Pairs) 0, .str tZ.Text, .I tZ.Refs]) ty_ag_37 ty_sz_37 rfl rfl)) (.tmp (v := .I 0) rfl (.tmp (v := .I 25) rfl .nil))) ?_
       exact ⟨_, _, (.refl _), ok.wh, _, F_some hF, rfl, rfl⟩
      ·refine CR (Ms rfl (Mi rfl (S_call (Fc_Stands_ok _ hF fun x28 _ hF => (Ab rfl (Sn ?_))) (.refl _))))
       refine C_if (b := x28) rfl hF (fun hb29 hF => ?_) (fun hb29 hF => ?_)
       ·refine CR (S_bld (v := .agg [.I 0, .I 0, .str nB, .snil, .str nB, .I 0]) (b_st ty_zc_37 ty_pl_37 rfl) (S_one 88 (v := .agg (cTR tZ)) (.aggC (.cons (.refl _) (.cons (.refl _) (.cons (.refl _) (.cons (.nil _) (.refl _)))))) (S_st (j := 0) (cs' := [.I tZ.Kind, .I tZ.At, .str tZ.Name, .sl 2 (List.map cP tZ.Pairs) 0, .str tZ.Text, .I tZ.Refs]) ok rfl rfl rfl hi1 rfl ty_sz_37 rfl rfl (fun ok => Ai rfl (Ai rfl (Sn (WP_ret ?_)))))))
        with_reducible repeat first | apply Exit.sr | apply Exit.br | apply Exit.jr
        refine C_ret (fn := Tryz.f17) rfl (.cell rfl (ld_ptr (j := 0) ok rfl hi1 (p_agg (vs := [.I tZ.Kind, .I tZ.At, .str tZ.Name, .sl 2 (List.map cP tZ.Pairs) 0, .str tZ.Text, .I tZ.Refs]) ty_ag_37 ty_sz_37 rfl rfl)) (.tmp (v := .I 0) rfl (.tmp (v := .I 23) rfl .nil))) ?_
        exact ⟨_, _, (.refl _), ok.wh, _, F_some hF, rfl, rfl⟩
       ·refine CR (Ms rfl (Mi rfl (S_call (Fc_Stands_ok _ hF fun x30 _ hF => (Ab rfl (Sn ?_))) (.refl _))))
        refine C_if (b := x30) rfl hF (fun hb31 hF => ?_) (fun hb31 hF => ?_)
        ·refine CR (Ms rfl (Mi rfl (S_bin rfl rfl (ev_add ..) (S_call (Fc_instruction_ok _ hF fun x32 _ hF => (S_ext rfl rfl (S_ext rfl rfl (S_ext rfl rfl (S_st (j := 0) (cs' := [.I x32.1.Kind, .I x32.1.At, .str x32.1.Name, .sl 2 (List.map cP x32.1.Pairs) 0, .str x32.1.Text, .I x32.1.Refs]) ok rfl rfl rfl hi1 rfl ty_sz_37 rfl rfl (fun ok => Ai rfl (Ai rfl (Sn (WP_ret ?_))))))))) (.refl _)))))
         with_reducible repeat first | apply Exit.sr | apply Exit.br | apply Exit.jr
         refine C_ret (fn := Tryz.f17) rfl (.cell rfl (ld_ptr (j := 0) ok rfl hi1 (p_agg (vs := [.I x32.1.Kind, .I x32.1.At, .str x32.1.Name, .sl 2 (List.map cP x32.1.Pairs) 0, .str x32.1.Text, .I x32.1.Refs]) ty_ag_37 ty_sz_37 rfl rfl)) (.tmp (v := .I x32.2.1) rfl (.tmp (v := .I x32.2.2) rfl .nil))) ?_
         exact ⟨_, _, (.refl _), ok.wh, _, F_some hF, rfl, rfl⟩
        ·refine CR (Ms rfl (Mi rfl (S_call (Fc_Stands_ok _ hF fun x33 _ hF => (Ab rfl (Sn ?_))) (.refl _))))
         refine C_if (b := x33) rfl hF (fun hb34 hF => ?_) (fun hb34 hF => ?_)
         ·refine CR (Ms rfl (Mi rfl (S_bin rfl rfl (ev_add ..) (S_call (Fc_written_ok _ hF fun x35 _ hF => (S_m (v := .tup _) rfl (S_ext rfl rfl (S_ext rfl rfl (S_ext rfl rfl (S_a (v := .str _) rfl (Ai rfl (Ai rfl (Sn (C_seq (CR (Mi rfl (S_bin rfl rfl (ev_neq ..) (Sn ?_)))))))))))))) (.refl _)))))
          refine C_if (b := (x35.2.2 != (0 : Int))) rfl hF (fun hb36 hF => ?_) (fun hb36 hF => ?_)
          ·refine CR (S_bld (v := .agg [.I 0, .I 0, .str nB, .snil, .str nB, .I 0]) (b_st ty_zc_37 ty_pl_37 rfl) (S_one 114 (v := .agg (cTR tZ)) (.aggC (.cons (.refl _) (.cons (.refl _) (.cons (.refl _) (.cons (.nil _) (.refl _)))))) (Mi rfl (S_st (j := 0) (cs' := [.I tZ.Kind, .I tZ.At, .str tZ.Name, .sl 2 (List.map cP tZ.Pairs) 0, .str tZ.Text, .I tZ.Refs]) ok rfl rfl rfl hi1 rfl ty_sz_37 rfl rfl (fun ok => Ai rfl (Ai rfl (Sn (WP_ret ?_))))))))
           with_reducible repeat first | apply Exit.sr | apply Exit.br | apply Exit.jr
           refine C_ret (fn := Tryz.f17) rfl (.cell rfl (ld_ptr (j := 0) ok rfl hi1 (p_agg (vs := [.I tZ.Kind, .I tZ.At, .str tZ.Name, .sl 2 (List.map cP tZ.Pairs) 0, .str tZ.Text, .I tZ.Refs]) ty_ag_37 ty_sz_37 rfl rfl)) (.tmp (v := .I 0) rfl (.tmp (v := .I x35.2.2) rfl .nil))) ?_
           exact ⟨_, _, (.refl _), ok.wh, _, F_some hF, rfl, rfl⟩
          ·refine WP_skip (CR (Ms rfl (Mi rfl (S_call (Fc_White_ok _ hF fun x37 _ hF => (Ai rfl (Sn (C_seq (CR (Ms rfl (Mi rfl (S_call (Fc_Stands_ok _ hF fun x38 _ hF => (S_un rfl (ev_not _) (Sn ?_))) (.refl _))))))))) (.refl _)))))
           refine C_if (b := (!x38)) rfl hF (fun hb39 hF => ?_) (fun hb39 hF => ?_)
           ·refine CR (S_bld (v := .agg [.I 0, .I 0, .str nB, .snil, .str nB, .I 0]) (b_st ty_zc_37 ty_pl_37 rfl) (S_one 123 (v := .agg (cTR tZ)) (.aggC (.cons (.refl _) (.cons (.refl _) (.cons (.refl _) (.cons (.nil _) (.refl _)))))) (S_st (j := 0) (cs' := [.I tZ.Kind, .I tZ.At, .str tZ.Name, .sl 2 (List.map cP tZ.Pairs) 0, .str tZ.Text, .I tZ.Refs]) ok rfl rfl rfl hi1 rfl ty_sz_37 rfl rfl (fun ok => Ai rfl (Ai rfl (Sn (WP_ret ?_)))))))
            with_reducible repeat first | apply Exit.sr | apply Exit.br | apply Exit.jr
            refine C_ret (fn := Tryz.f17) rfl (.cell rfl (ld_ptr (j := 0) ok rfl hi1 (p_agg (vs := [.I tZ.Kind, .I tZ.At, .str tZ.Name, .sl 2 (List.map cP tZ.Pairs) 0, .str tZ.Text, .I tZ.Refs]) ty_ag_37 ty_sz_37 rfl rfl)) (.tmp (v := .I 0) rfl (.tmp (v := .I 23) rfl .nil))) ?_
            exact ⟨_, _, (.refl _), ok.wh, _, F_some hF, rfl, rfl⟩
           ·refine WP_skip (CR (Ms rfl (S_bld (v := .agg [.I 3, .I 0, .str x35.1, .snil, .str nB, .I 0]) (b_st ty_zc_37 ty_pl_37 rfl) (S_one 125 (v := .agg (cTR (⟨(3 : Int), (0 : Int), x35.1, nP, nB, (0 : Int)⟩ : TR))) (.aggC (.cons (.refl _) (.cons (.refl _) (.cons (.refl _) (.cons (.nil _) (.refl _)))))) (Mi rfl (S_bin rfl rfl (ev_add ..) (S_st (j := 0) (cs' := [.I (⟨(3 : Int), (0 : Int), x35.1, nP, nB, (0 : Int)⟩ : TR).Kind, .I (⟨(3 : Int), (0 : Int), x35.1, nP, nB, (0 : Int)⟩ : TR).At, .str (⟨(3 : Int), (0 : Int), x35.1, nP, nB, (0 : Int)⟩ : TR).Name, .sl 2 (List.map cP (⟨(3 : Int), (0 : Int), x35.1, nP, nB, (0 : Int)⟩ : TR).Pairs) 0, .str (⟨(3 : Int), (0 : Int), x35.1, nP, nB, (0 : Int)⟩ : TR).Text, .I (⟨(3 : Int), (0 : Int), x35.1, nP, nB, (0 : Int)⟩ : TR).Refs]) ok rfl rfl rfl hi1 rfl ty_sz_37 rfl rfl (fun ok => Ai rfl (Ai rfl (Sn (WP_ret ?_)))))))))))
            with_reducible repeat first | apply Exit.sr | apply Exit.br | apply Exit.jr
            refine C_ret (fn := Tryz.f17) rfl (.cell rfl (ld_ptr (j := 0) ok rfl hi1 (p_agg (vs := [.I (⟨(3 : Int), (0 : Int), x35.1, nP, nB, (0 : Int)⟩ : TR).Kind, .I (⟨(3 : Int), (0 : Int), x35.1, nP, nB, (0 : Int)⟩ : TR).At, .str (⟨(3 : Int), (0 : Int), x35.1, nP, nB, (0 : Int)⟩ : TR).Name, .sl 2 (List.map cP (⟨(3 : Int), (0 : Int), x35.1, nP, nB, (0 : Int)⟩ : TR).Pairs) 0, .str (⟨(3 : Int), (0 : Int), x35.1, nP, nB, (0 : Int)⟩ : TR).Text, .I (⟨(3 : Int), (0 : Int), x35.1, nP, nB, (0 : Int)⟩ : TR).Refs]) ty_ag_37 ty_sz_37 rfl rfl)) (.tmp (v := .I (IntKind.wrap .i64 (x37 + (1 : Int)))) rfl (.tmp (v := .I 0) rfl .nil))) ?_
            exact ⟨_, _, (.refl _), ok.wh, _, F_some hF, rfl, rfl⟩
         ·refine CR (Ms rfl (Mi rfl (S_ixS rfl rfl ty_st_9 hF (fun x40 _ hF => S_bin rfl rfl (ev_eql ..) (Ab rfl (Sn ?_))))))
          refine C_if (b := ((x40.toNat : Int) == (60 : Int))) rfl hF (fun hb41 hF => ?_) (fun hb41 hF => ?_)
          ·refine CR (Ms rfl (Mi rfl (S_bin rfl rfl (ev_add ..) (S_call (Fc_tag_ok _ hF fun x42 _ hF => (S_ext rfl rfl (S_ext rfl rfl (S_ext rfl rfl (S_st (j := 0) (cs' := [.I x42.1.Kind, .I x42.1.At, .str x42.1.Name, .sl 2 (List.map cP x42.1.Pairs) 0, .str x42.1.Text, .I x42.1.Refs]) ok rfl rfl rfl hi1 rfl ty_sz_37 rfl rfl (fun ok => Ai rfl (Ai rfl (Sn (WP_ret ?_))))))))) (.refl _)))))
           with_reducible repeat first | apply Exit.sr | apply Exit.br | apply Exit.jr
           refine C_ret (fn := Tryz.f17) rfl (.cell rfl (ld_ptr (j := 0) ok rfl hi1 (p_agg (vs := [.I x42.1.Kind, .I x42.1.At, .str x42.1.Name, .sl 2 (List.map cP x42.1.Pairs) 0, .str x42.1.Text, .I x42.1.Refs]) ty_ag_37 ty_sz_37 rfl rfl)) (.tmp (v := .I x42.2.1) rfl (.tmp (v := .I x42.2.2) rfl .nil))) ?_
           exact ⟨_, _, (.refl _), ok.wh, _, F_some hF, rfl, rfl⟩
          ·refine WP_skip (CR (Ms rfl (Mi rfl (S_call (Fc_Find_ok _ hF fun x43 _ hF => (Ai rfl (Sn ?_))) (.refl _)))))
           refine C_join hF (fun (a45 : Int) s' => OK h [(i1, .cells [.I 0, .I 0, .str nB, .sl 2 (List.map cP nP) 0, .str nB, .I 0])] ∧ WS s' ⟨mkSl 177 [(0, .str p0), (1, .I p1), (4, .ptr i1 0), (12, .I a45)], Hp h [(i1, .cells [.I 0, .I 0, .str nB, .sl 2 (List.map cP nP) 0, .str nB, .I 0])]⟩) (fun J46 hF => ?_) ?_
           ·refine CR (Mi rfl (S_bin rfl rfl (ev_lss ..) (Sn ?_)))
            refine C_if (b := (decide (x43 < (0 : Int)))) rfl hF (fun hb47 hF => ?_) (fun hb47 hF => ?_)
            ·refine C_reg (mdl []) (Ms rfl (S_lenS rfl ty_st_9 (Ai rfl (Sn ?_))))
             have hwo : WO [(i1, .cells [.I 0, .I 0, .str nB, .snil, .str nB, .I 0])] [(i1, .cells [.I 0, .I 0, .str nB, .sl 2 (List.map cP nP) 0, .str nB, .I 0])] := (.weak (.cons (.refl _) (.cons (.refl _) (.cons (.refl _) (.cons (.nil _) (.refl _))))) .nil)
             exact ⟨(p0.length : Int), hF, (hwo.spec ok).1, WS.mk' (.k (.k (.k (.k .nil)))) ok hwo⟩
            ·refine WP_skip ?_
             have hwo : WO [(i1, .cells [.I 0, .I 0, .str nB, .snil, .str nB, .I 0])] [(i1, .cells [.I 0, .I 0, .str nB, .sl 2 (List.map cP nP) 0, .str nB, .I 0])] := (.weak (.cons (.refl _) (.cons (.refl _) (.cons (.refl _) (.cons (.nil _) (.refl _))))) .nil)
             exact ⟨x43, hF, (hwo.spec ok).1, WS.mk' (.k (.k (.k (.k .nil)))) ok hwo⟩
           ·rintro a45 s' hF ⟨ok, hws⟩
            refine WP_ws hws ?_
            clear hws s'
            refine CR (Ms rfl (Mi rfl (Mi rfl (S_slS rfl ty_st_9 (bd_at rfl) (bd_at rfl) hF (fun x48 _ hF => S_byt0 rfl rfl ty_sl_22 ty_st_9 ty_ki_5 (S_call (Fb_Read_ok _ hF fun x49 _ hF => (S_m (v := .tup _) rfl (S_ext rfl rfl (S_ext rfl rfl (S_ext rfl rfl (S_a (v := .str _) rfl (Ai rfl (Ai rfl (Sn (C_seq (CR (Mi rfl (S_bin rfl rfl (ev_neq ..) (Sn ?_)))))))))))))) (.refl _)))))))
            refine C_if (b := (x49.2.2 != (0 : Int))) rfl hF (fun hb50 hF => ?_) (fun hb50 hF => ?_)
            ·refine CR (S_bld (v := .agg [.I 0, .I 0, .str nB, .snil, .str nB, .I 0]) (b_st ty_zc_37 ty_pl_37 rfl) (S_one 159 (v := .agg (cTR tZ)) (.aggC (.cons (.refl _) (.cons (.refl _) (.cons (.refl _) (.cons (.nil _) (.refl _)))))) (Mi rfl (S_st (j := 0) (cs' := [.I tZ.Kind, .I tZ.At, .str tZ.Name, .sl 2 (List.map cP tZ.Pairs) 0, .str tZ.Text, .I tZ.Refs]) ok rfl rfl rfl hi1 rfl ty_sz_37 rfl rfl (fun ok => Ai rfl (Ai rfl (Sn (WP_ret ?_))))))))
             with_reducible repeat first | apply Exit.sr | apply Exit.br | apply Exit.jr
             refine C_ret (fn := Tryz.f17) rfl (.cell rfl (ld_ptr (j := 0) ok rfl hi1 (p_agg (vs := [.I tZ.Kind, .I tZ.At, .str tZ.Name, .sl 2 (List.map cP tZ.Pairs) 0, .str tZ.Text, .I tZ.Refs]) ty_ag_37 ty_sz_37 rfl rfl)) (.tmp (v := .I 0) rfl (.tmp (v := .I x49.2.2) rfl .nil))) ?_
             exact ⟨_, _, (.refl _), ok.wh, _, F_some hF, rfl, rfl⟩
            ·refine WP_skip (CR (Ai rfl (Sn ?_)))
             refine C_join hF (fun (a59 : Int) s' => OK h [(i1, .cells [.I 0, .I 0, .str nB, .sl 2 (List.map cP nP) 0, .str nB, .I 0])] ∧ WS s' ⟨mkSl 177 [(4, .ptr i1 0), (12, .I a45), (13, .str x49.1), (16, .I a59)], Hp h [(i1, .cells [.I 0, .I 0, .str nB, .sl 2 (List.map cP nP) 0, .str nB, .I 0])]⟩) (fun J60 hF => ?_) ?_
             ·refine CR (Mi rfl (Ai rfl (Sn (WP_block ?_))))
              refine C_loop (σ := Int × Int) hF (fun (v : Int × Int) s' => match v with | (a61, a62) => OK h [(i1, .cells [.I 0, .I 0, .str nB, .sl 2 (List.map cP nP) 0, .str nB, .I 0])] ∧ WS s' ⟨mkSl 177 [(0, .str p0), (4, .ptr i1 0), (12, .I a45), (13, .str x49.1), (16, .I a61), (17, .I a62)], Hp h [(i1, .cells [.I 0, .I 0, .str nB, .sl 2 (List.map cP nP) 0, .str nB, .I 0])]⟩) ?_ ?_
              ·exact ⟨ok, WS.mk' (.k (.k (.k (.k (.k (.k .nil)))))) ok (.refl _)⟩
              ·rintro G63 hG64 rec65 ⟨a61, a62⟩ s' ih66 hF ⟨ok, hws⟩
               refine WP_ws hws ?_
               clear hws s'
               rw [Fc_One_l0] at hF
               refine C_seq (CR (Mi rfl (Mi rfl (S_bin rfl rfl (ev_lss ..) (Sn ?_)))))
               refine C_if (b := (decide (a62 < a45))) rfl hF (fun hb67 hF => ?_) (fun hb67 hF => ?_)
               ·refine WP_skip ?_
                refine C_join hF (fun (a70 : Int) s' => OK h [(i1, .cells [.I 0, .I 0, .str nB, .sl 2 (List.map cP nP) 0, .str nB, .I 0])] ∧ WS s' ⟨mkSl 177 [(0, .str p0), (4, .ptr i1 0), (12, .I a45), (13, .str x49.1), (16, .I a70), (17, .I a62)], Hp h [(i1, .cells [.I 0, .I 0, .str nB, .sl 2 (List.map cP nP) 0, .str nB, .I 0])]⟩) (fun J71 hF => ?_) ?_
                ·refine WP_block (CR (Ms rfl (Mi rfl (S_ixS rfl rfl ty_st_9 hF (fun x72 _ hF => S_bin rfl rfl (ev_eql ..) (Sn ?_))))))
                 refine C_if (b := ((x72.toNat : Int) == (38 : Int))) rfl hF (fun hb73 hF => ?_) (fun hb73 hF => ?_)
                 ·refine C_reg (mdl []) (Mi rfl (S_bin rfl rfl (ev_add ..) (Ai rfl (Sn ?_))))
                  exact ⟨(IntKind.wrap .i64 (a61 + (1 : Int))), hF, ok, WS.mk' (.k (.k (.k (.k (.k (.k .nil)))))) ok (.refl _)⟩
                 ·refine WP_skip ?_
                  exact ⟨a61, hF, ok, WS.mk' (.k (.k (.k (.k (.k (.k .nil)))))) ok (.refl _)⟩
                ·rintro a70 s' hF ⟨ok, hws⟩
                 refine WP_ws hws ?_
                 clear hws s'
                 refine C_reg (mdl []) (Mi rfl (S_bin rfl rfl (ev_add ..) (Ai rfl (Sn (ih66 (a70, (IntKind.wrap .i64 (a62 + (1 : Int)))) _ hF ?_)))))
                 exact ⟨ok, WS.mk' (.k (.k (.k (.k (.k (.k .nil)))))) ok (.refl _)⟩
               ·refine WP_exit ?_
                simp only [Exit.sel, Exit.blk, Exit.jmp, if_true, if_false, reduceIte, Nat.reduceEqDiff, Nat.succ_ne_zero, Nat.zero_ne_one, Nat.one_ne_zero]
                replace hF := hG64 _ (F_some hF)
                exact ⟨a61, hF, ok, WS.mk' (.k (.k (.k (.k .nil)))) ok (.refl _)⟩
             ·rintro a59 s' hF ⟨ok, hws⟩
              refine WP_ws hws ?_
              clear hws s'
              refine CR (Ms rfl (Mi rfl (S_bld (v := .agg [.I 5, .I 0, .str nB, .snil, .str x49.1, .I a59]) (b_st ty_zc_37 ty_pl_37 rfl) (S_one 175 (v := .agg (cTR (⟨(5 : Int), (0 : Int), nB, nP, x49.1, a59⟩ : TR))) (.aggC (.cons (.refl _) (.cons (.refl _) (.cons (.refl _) (.cons (.nil _) (.refl _)))))) (Mi rfl (S_st (j := 0) (cs' := [.I (⟨(5 : Int), (0 : Int), nB, nP, x49.1, a59⟩ : TR).Kind, .I (⟨(5 : Int), (0 : Int), nB, nP, x49.1, a59⟩ : TR).At, .str (⟨(5 : Int), (0 : Int), nB, nP, x49.1, a59⟩ : TR).Name, .sl 2 (List.map cP (⟨(5 : Int), (0 : Int), nB, nP, x49.1, a59⟩ : TR).Pairs) 0, .str (⟨(5 : Int), (0 : Int), nB, nP, x49.1, a59⟩ : TR).Text, .I (⟨(5 : Int), (0 : Int), nB, nP, x49.1, a59⟩ : TR).Refs]) ok rfl rfl rfl hi1 rfl ty_sz_37 rfl rfl (fun ok => Ai rfl (Ai rfl (Sn (WP_ret ?_))))))))))
              with_reducible repeat first | apply Exit.sr | apply Exit.br | apply Exit.jr
              refine C_ret (fn := Tryz.f17) rfl (.cell rfl (ld_ptr (j := 0) ok rfl hi1 (p_agg (vs := [.I (⟨(5 : Int), (0 : Int), nB, nP, x49.1, a59⟩ : TR).Kind, .I (⟨(5 : Int), (0 : Int), nB, nP, x49.1, a59⟩ : TR).At, .str (⟨(5 : Int), (0 : Int), nB, nP, x49.1, a59⟩ : TR).Name, .sl 2 (List.map cP (⟨(5 : Int), (0 : Int), nB, nP, x49.1, a59⟩ : TR).Pairs) 0, .str (⟨(5 : Int), (0 : Int), nB, nP, x49.1, a59⟩ : TR).Text, .I (⟨(5 : Int), (0 : Int), nB, nP, x49.1, a59⟩ : TR).Refs]) ty_ag_37 ty_sz_37 rfl rfl)) (.tmp (v := .I a45) rfl (.tmp (v := .I 0) rfl .nil))) ?_
              exact ⟨_, _, (.refl _), ok.wh, _, F_some hF, rfl, rfl⟩
theorem Fc_One_ok {β : Type} {f : TR × Int × Int → Option β} {G : β → Prop} {R : D → Heap → Prop} {p0 : LB} {p1 : Int} (h : Heap) (hF : OptP ((Fc_One p0 p1).bind f) G) (hk : ∀ r, Fc_One p0 p1 = some r → OptP (f r) G → R (.tup [.agg (cTR r.1), .I r.2.1, .I r.2.2]) h) : CallsA Tryz.prog 17 [.str p0, .I p1] h R := by
 obtain ⟨r0, hr, hF⟩ := F_bind hF
 refine (Fc_One_w (G := fun r => r = r0) p0 p1 h ⟨r0, hr, rfl⟩).mono ?_
 rintro _ _ ⟨r, rfl, rfl, rfl⟩
 exact hk _ hr hF
theorem Fc_All_w (p0 : LB) {G : (List TR) × Int × Int → Prop} (h : Heap) (hF : OptP (Fc_All p0) G) : CallsA Tryz.prog 8 [.sl 1 (List.map c_u8 p0) 0] h fun d h' => ∃ r, G r ∧ d = .tup [.sl 6 (List.map cTR r.1) 0, .I r.2.1, .I r.2.2] ∧ h' = h := by
 refine CallsA.ret (C_body Tryz.func8 rfl en_8 Tryz.ntmps8 rfl (fun ok => ?_))
 rw [Fc_All] at hF
 refine CR (S_a (v := .snil) rfl (S_one 2 (v := .sl 6 (List.map cTR ([] : List TR)) 0) (.nil _) (Ai rfl (Ai rfl (Sn (C_seq (CR (Ml rfl (S_lenL rfl ty_sl_22 (S_bin rfl rfl (ev_gtr ..) (Sn ?_)))))))))))
 refine C_if (b := (decide ((65536 : Int) < (p0.length : Int)))) rfl hF (fun hb1 hF => ?_) (fun hb1 hF => ?_)
 ·refine CR (S_a (v := .snil) rfl (S_one 2 (v := .sl 6 (List.map cTR ([] : List TR)) 0) (.nil _) (Ai rfl (Ai rfl (Sn (WP_ret ?_))))))
  with_reducible repeat first | apply Exit.sr | apply Exit.br | apply Exit.jr
  refine C_ret (fn := Tryz.f8) rfl (.tmp (v := .sl 6 (List.map cTR ([] : List TR)) 0) rfl (.tmp (v := .I 0) rfl (.tmp (v := .I 6) rfl .nil))) ?_
  exact ⟨_, _, (.refl _), ok.wh, _, F_some hF, rfl, rfl⟩
 ·refine WP_skip (CR (Ml rfl (S_call (Fc_Text_ok _ hF fun x2 _ hF => (S_a (v := .str _) rfl (Sn (CR (Ms rfl (S_byt0 rfl rfl ty_sl_22 ty_st_9 ty_ki_5 (S_call (Fa_Fault_ok _ hF fun x3 _ hF => (S_m (v := .tup _) rfl (S_ext rfl rfl (S_ext rfl rfl (Ai rfl (Ai rfl (Sn (C_seq (CR (Mi rfl (S_bin rfl rfl (ev_neq ..) (Sn ?_)))))))))))) (.refl _)))))))) (.refl _))))
  refine C_if (b := (x3.2 != (0 : Int))) rfl hF (fun hb4 hF => ?_) (fun hb4 hF => ?_)
  ·refine CR (Mi rfl (Mi rfl (S_a (v := .snil) rfl (S_one 2 (v := .sl 6 (List.map cTR ([] : List TR)) 0) (.nil _) (Ai rfl (Ai rfl (Sn (WP_ret ?_))))))))
   with_reducible repeat first | apply Exit.sr | apply Exit.br | apply Exit.jr
   refine C_ret (fn := Tryz.f8) rfl (.tmp (v := .sl 6 (List.map cTR ([] : List TR)) 0) rfl (.tmp (v := .I x3.1) rfl (.tmp (v := .I x3.2) rfl .nil))) ?_
   exact ⟨_, _, (.refl _), ok.wh, _, F_some hF, rfl, rfl⟩
  ·refine WP_skip (C_seq (C_reg (mdl [(27, 2)]) ?_))
   refine S_lit2 (cs := []) (es := (List.map cTR ([] : List TR))) ok rfl ty_el_29 rfl (by kernel_rfl) (by kernel_rfl) ?_
   intro r5 hr5 ok
   refine S_a (v := .sl _ _ _) rfl (Sn ?_)
   refine C_join hF (fun (a14 : (List TR)) s' => ∃ g15 : Nat, g15 ≠ 0 ∧ OK h [(g15, .room)] ∧ WS s' ⟨mkSl 51 [(8, .sl 6 (List.map cTR a14) g15)], Hp h [(g15, .room)]⟩) (fun J16 hF => ?_) ?_
   ·refine CR (Ai rfl (Sn (WP_block ?_)))
    refine C_loop (σ := Int × (List TR)) hF (fun (v : Int × (List TR)) s' => match v with | (a17, a18) => ∃ g19 : Nat, g19 ≠ 0 ∧ OK h [(g19, .room)] ∧ WS s' ⟨mkSl 51 [(5, .str x2), (6, .I a17), (8, .sl 6 (List.map cTR a18) g19)], Hp h [(g19, .room)]⟩) ?_ ?_
    ·exact ⟨r5, hr5, ok, WS.mk' (.k (.k (.k .nil))) ok (.refl _)⟩
    ·rintro G20 hG21 rec22 ⟨a17, a18⟩ s' ih23 hF ⟨g19, hg19, ok, hws⟩
     refine WP_ws hws ?_
     clear hws s'
     rw [Fc_All_l0] at hF
     refine C_seq (CR (Mi rfl (Ms rfl (S_lenS rfl ty_st_9 (S_bin rfl rfl (ev_lss ..) (Sn ?_))))))
     refine C_if (b := (decide (a17 < (x2.length : Int)))) rfl hF (fun hb24 hF => ?_) (fun hb24 hF => ?_)
     ·refine WP_skip (WP_block (C_seq (C_reg (mdl [(9, 1)]) (Ms rfl (Mi rfl (S_call (Fc_One_ok _ hF fun x25 _ hF => (S_m (v := .tup _) rfl (S_ext rfl rfl (S_ext rfl rfl (S_ext rfl rfl (S_all1 ok rfl ty_zc_37 ?_)))))) (.refl _)))))))
      intro i26 hi26 ok
      refine S_st (j := 0) (cs' := [.I x25.1.Kind, .I x25.1.At, .str x25.1.Name, .sl 2 (List.map cP x25.1.Pairs) 0, .str x25.1.Text, .I x25.1.Refs]) ok rfl rfl rfl hi26 rfl ty_sz_37 rfl rfl (fun ok => Ai rfl (Ai rfl (Sn (C_seq (CR (Mi rfl (S_bin rfl rfl (ev_neq ..) (Sn ?_))))))))
      refine C_if (b := (x25.2.2 != (0 : Int))) rfl hF (fun hb27 hF => ?_) (fun hb27 hF => ?_)
      ·refine CR (Mi rfl (Mi rfl (S_a (v := .snil) rfl (S_one 2 (v := .sl 6 (List.map cTR ([] : List TR)) 0) (.nil _) (Ai rfl (Ai rfl (Sn (WP_ret ?_))))))))
       replace hF := hG21 _ (F_some hF)
       with_reducible repeat first | apply Exit.sr | apply Exit.br | apply Exit.jr
       refine C_ret (fn := Tryz.f8) rfl (.tmp (v := .sl 6 (List.map cTR ([] : List TR)) 0) rfl (.tmp (v := .I a17) rfl (.tmp (v := .I x25.2.2) rfl .nil))) ?_
       exact ⟨_, _, (.refl _), ok.wh, _, F_some hF, rfl, rfl⟩
      ·refine WP_skip (CR (Mi rfl (S_faP rfl ty_fd_37_1 ty_sz_3 (S_st (j := 0) (cs' := [.I x25.1.Kind, .I a17, .str x25.1.Name, .sl 2 (List.map cP x25.1.Pairs) 0, .str x25.1.Text, .I x25.1.Refs]) ok rfl rfl rfl hi26 rfl ty_sz_3 rfl rfl (fun ok => Sn (C_seq (C_reg (mdl [(48, 2)]) (Ml rfl (S_ldP (j := 0) ok rfl rfl rfl hi26 (p_agg (vs := cTR (⟨x25.1.Kind, a17, x25.1.Name, x25.1.Pairs, x25.1.Text, x25.1.Refs⟩ : TR)) ty_ag_37 ty_sz_37 rfl rfl) ?_)))))))))
       refine S_lit0 (cs := [.I (⟨x25.1.Kind, a17, x25.1.Name, x25.1.Pairs, x25.1.Text, x25.1.Refs⟩ : TR).Kind, .I (⟨x25.1.Kind, a17, x25.1.Name, x25.1.Pairs, x25.1.Text, x25.1.Refs⟩ : TR).At, .str (⟨x25.1.Kind, a17, x25.1.Name, x25.1.Pairs, x25.1.Text, x25.1.Refs⟩ : TR).Name, .sl 2 (List.map cP (⟨x25.1.Kind, a17, x25.1.Name, x25.1.Pairs, x25.1.Text, x25.1.Refs⟩ : TR).Pairs) 0, .str (⟨x25.1.Kind, a17, x25.1.Name, x25.1.Pairs, x25.1.Text, x25.1.Refs⟩ : TR).Text, .I (⟨x25.1.Kind, a17, x25.1.Name, x25.1.Pairs, x25.1.Text, x25.1.Refs⟩ : TR).Refs]) (es := (List.map cTR [(⟨x25.1.Kind, a17, x25.1.Name, x25.1.Pairs, x25.1.Text, x25.1.Refs⟩ : TR)])) rfl ty_el_29 rfl (by kernel_rfl) (by kernel_rfl) ?_
       refine S_app (j := 1) ok rfl rfl rfl rfl hg19 ty_el_29 ty_ni_29 hF ?_
       intro r28 hr28 ok hF
       refine S_a (v := .sl _ _ _) rfl (Sn (C_reg (mdl []) (Mi rfl (Ai rfl (Sn (ih23 (x25.2.1, (a18 ++ [(⟨x25.1.Kind, a17, x25.1.Name, x25.1.Pairs, x25.1.Text, x25.1.Refs⟩ : TR)])) _ hF ?_))))))
       have hwo : WO [(i26, .cells [.I x25.1.Kind, .I a17, .str x25.1.Name, .sl 2 (List.map cP x25.1.Pairs) 0, .str x25.1.Text, .I x25.1.Refs]), (r28, .room)] [(r28, .room)] := (.drop (.keep .nil))
       exact ⟨r28, hr28, (hwo.spec ok).1, WS.mk' (.k (.k (.k .nil))) ok hwo⟩
     ·refine WP_exit ?_
      simp only [Exit.sel, Exit.blk, Exit.jmp, if_true, if_false, reduceIte, Nat.reduceEqDiff, Nat.succ_ne_zero, Nat.zero_ne_one, Nat.one_ne_zero]
      replace hF := hG21 _ (F_some hF)
      exact ⟨a18, hF, g19, hg19, ok, WS.mk' (.k .nil) ok (.refl _)⟩
   ·rintro a14 s' hF ⟨g15, hg15, ok, hws⟩
    refine WP_ws hws ?_
    clear hws s'
    refine CR (Ml rfl (S_one 50 (v := .sl 6 (List.map cTR a14) 0) (.zero _ _ _) (S_a (v := .sl _ _ _) rfl (Ai rfl (Ai rfl (Sn (WP_ret ?_)))))))
    with_reducible repeat first | apply Exit.sr | apply Exit.br | apply Exit.jr
    refine C_ret (fn := Tryz.f8) rfl (.tmp (v := .sl 6 (List.map cTR a14) 0) rfl (.tmp (v := .I 0) rfl (.tmp (v := .I 0) rfl .nil))) ?_
    exact ⟨_, _, (.refl _), ok.wh, _, F_some hF, rfl, rfl⟩
theorem Fc_All_ok {β : Type} {f : (List TR) × Int × Int → Option β} {G : β → Prop} {R : D → Heap → Prop} {p0 : LB} (h : Heap) (hF : OptP ((Fc_All p0).bind f) G) (hk : ∀ r, Fc_All p0 = some r → OptP (f r) G → R (.tup [.sl 6 (List.map cTR r.1) 0, .I r.2.1, .I r.2.2]) h) : CallsA Tryz.prog 8 [.sl 1 (List.map c_u8 p0) 0] h R := by
 obtain ⟨r0, hr, hF⟩ := F_bind hF
 refine (Fc_All_w (G := fun r => r = r0) p0 h ⟨r0, hr, rfl⟩).mono ?_
 rintro _ _ ⟨r, rfl, rfl, rfl⟩
 exact hk _ hr hF
theorem Fa_Same_w (p0 : LB) (p1 : LB) {G : Bool → Prop} (h : Heap) (hF : OptP (Fa_Same p0 p1) G) : CallsA Tryz.prog 21 [.sl 1 (List.map c_u8 p0) 0, .sl 1 (List.map c_u8 p1) 0] h fun d h' => ∃ r, G r ∧ d = .bool r ∧ h' = h := by
 refine CallsA.ret (C_body Tryz.func21 rfl en_21 Tryz.ntmps21 rfl (fun ok => ?_))
 rw [Fa_Same] at hF
 refine CR (Ab rfl (Sn (CR (Ml rfl (S_conv rfl (e_cbs ty_sl_22 ty_ki_5 ty_st_9) (Ml rfl (S_conv rfl (e_cbs ty_sl_22 ty_ki_5 ty_st_9) (S_bin rfl rfl e_seql (Ab rfl (Sn (WP_ret ?_)))))))))))
 with_reducible repeat first | apply Exit.sr | apply Exit.br | apply Exit.jr
 refine C_ret (fn := Tryz.f21) rfl (.tmp (v := .bool (p0 == p1)) rfl .nil) ?_
 exact ⟨_, _, (.refl _), ok.wh, _, F_some hF, rfl, rfl⟩
theorem Fa_Same_ok {β : Type} {f : Bool → Option β} {G : β → Prop} {R : D → Heap → Prop} {p0 : LB} {p1 : LB} (h : Heap) (hF : OptP ((Fa_Same p0 p1).bind f) G) (hk : ∀ r, Fa_Same p0 p1 = some r → OptP (f r) G → R (.bool r) h) : CallsA Tryz.prog 21 [.sl 1 (List.map c_u8 p0) 0, .sl 1 (List.map c_u8 p1) 0] h R := by
 obtain ⟨r0, hr, hF⟩ := F_bind hF
 refine (Fa_Same_w (G := fun r => r = r0) p0 p1 h ⟨r0, hr, rfl⟩).mono ?_
 rintro _ _ ⟨r, rfl, rfl, rfl⟩
 exact hk _ hr hF
theorem Fa_Kept_w (p0 : LB × LB) (p1 : LB) {G : Bool → Prop} (h : Heap) (hF : OptP (Fa_Kept p0 p1) G) : CallsA Tryz.prog 11 [.slx 1 (List.map c_u8 p0.1) (List.map c_u8 p0.2), .sl 1 (List.map c_u8 p1) 0] h fun d h' => ∃ r, G r ∧ d = .bool r ∧ h' = h := by
 refine CallsA.ret (C_body Tryz.func11 rfl en_11 Tryz.ntmps11 rfl (fun ok => ?_))
 rw [Fa_Kept] at hF
 refine CR (Ab rfl (Sn (CR (S_m (v := .slx _ _ _) rfl (Ml rfl (S_call (Fa_Same_ok _ hF fun x1 _ hF => (Mb rfl ?_)) (.cons (.slx _ _ _) (.refl _))))))))
 refine S_twoJ 6 14 hF (fun J3 hb2 hF => ?_) (fun J3 hb2 hF => ?_) (fun v4 hF => ?_)
 ·refine Sx rfl rfl hb2 (S_m (v := .slx _ _ _) rfl (Sn (Sx rfl rfl hb2 (S_capX rfl ty_sl_22 (fun m5 hm5 => Sn (Sx rfl rfl hb2 (S_m (v := .slx _ _ _) rfl (Sn (S_oneX 11 rfl (Sx rfl rfl hb2 (S_lenL rfl ty_sl_22 (Sn (Sx rfl rfl hb2 ?_)))))))))))))
  obtain ⟨x6, hx6, hF⟩ := F_bind hF
  have hcx := capx_gt hm5 hx6
  refine S_bin rfl rfl (ev_gtr ..) (Sn ?_)
  rw [hcx]
  refine S_pickT (v := .bool _) rfl hb2 rfl (Sn ?_)
  refine ⟨_, hF, .hd (.refl _) ?_⟩
  repeat first | with_reducible exact .refl _ | refine .add ?_ rfl
 ·refine So rfl rfl hb2 (So rfl rfl hb2 (So rfl rfl hb2 (So rfl rfl hb2 (So rfl rfl hb2 (S_pickF (v := .bool _) rfl hb2 rfl (Sn ?_))))))
  refine ⟨_, hF, .hd (.refl _) ?_⟩
  repeat first | with_reducible exact .refl _ | refine .add ?_ rfl
 ·refine Mb rfl ?_
  refine S_twoJ 11 26 hF (fun J8 hb7 hF => ?_) (fun J8 hb7 hF => ?_) (fun v9 hF => ?_)
  ·refine Sx rfl rfl hb7 (S_m (v := .slx _ _ _) rfl (Sn (Sx rfl rfl hb7 (S_m (v := .slx _ _ _) rfl (Sn (S_oneX 17 rfl (Sx rfl rfl hb7 (S_lenL rfl ty_sl_22 (Sn (Sx rfl rfl hb7 (S_bin rfl rfl (ev_add ..) (Sn (Sx rfl rfl hb7 (S_slX (e := p0.1) (sp := p0.2) rfl ty_sl_22 ty_sz_5 rfl hF (fun x10 _ hF => Sn (S_oneX 20 rfl (Sx rfl rfl hb7 (S_m (v := .slx _ _ _) rfl (Sn (S_oneX 21 rfl (Sx rfl rfl hb7 (S_lenL rfl ty_sl_22 (Sn (Sx rfl rfl hb7 (S_ix rfl rfl ty_sl_22 ty_sz_5 hF (fun x11 _ hF => Sn (Sx rfl rfl hb7 (S_ldQ rfl (p_one ty_ag_5 ty_sz_5 rfl) (Sn (S_on rfl rfl hb7 ?_))))))))))))))))))))))))))))))
   refine S_in (S_bin rfl rfl (ev_eql ..) (Sn (S_pickT (v := .bool _) rfl hb7 rfl (Sn ?_))))
   refine ⟨_, hF, .hd (.refl _) ?_⟩
   repeat first | with_reducible exact .refl _ | refine .add ?_ rfl
  ·refine So rfl rfl hb7 (So rfl rfl hb7 (So rfl rfl hb7 (So rfl rfl hb7 (So rfl rfl hb7 (So rfl rfl hb7 (So rfl rfl hb7 (So rfl rfl hb7 (So rfl rfl hb7 (So rfl rfl hb7 (S_pickF (v := .bool _) rfl hb7 rfl (Sn ?_)))))))))))
   refine ⟨_, hF, .hd (.refl _) ?_⟩
   repeat first | with_reducible exact .refl _ | refine .add ?_ rfl
  ·refine Ab rfl (Sn (WP_ret ?_))
   with_reducible repeat first | apply Exit.sr | apply Exit.br | apply Exit.jr
   refine C_ret (fn := Tryz.f11) rfl (.tmp (v := .bool v9) rfl .nil) ?_
   exact ⟨_, _, (.refl _), ok.wh, _, F_some hF, rfl, rfl⟩
theorem Fa_Kept_ok {β : Type} {f : Bool → Option β} {G : β → Prop} {R : D → Heap → Prop} {p0 : LB × LB} {p1 : LB} (h : Heap) (hF : OptP ((Fa_Kept p0 p1).bind f) G) (hk : ∀ r, Fa_Kept p0 p1 = some r → OptP (f r) G → R (.bool r) h) : CallsA Tryz.prog 11 [.slx 1 (List.map c_u8 p0.1) (List.map c_u8 p0.2), .sl 1 (List.map c_u8 p1) 0] h R := by
 obtain ⟨r0, hr, hF⟩ := F_bind hF
 refine (Fa_Kept_w (G := fun r => r = r0) p0 p1 h ⟨r0, hr, rfl⟩).mono ?_
 rintro _ _ ⟨r, rfl, rfl, rfl⟩
 exact hk _ hr hF
theorem Fl_doc_w (p0 : TK) {G : TR → Prop} (h : Heap) (hF : OptP (Fl_doc p0) G) : CallsA Tryz.prog 13 [.agg (cTK p0)] h fun d h' => ∃ r, G r ∧ d = .agg (cTR r) ∧ h' = h := by
 refine CallsA.ret (C_body Tryz.func13 rfl en_13 Tryz.ntmps13 rfl (fun ok => ?_))
 rw [Fl_doc] at hF
 refine C_seq (C_reg (mdl [(2, 1)]) (S_box0 rfl rfl rfl rfl (S_all1 ok rfl ty_zc_37 ?_)))
 intro i1 hi1 ok
 refine Sn (C_seq (C_reg (mdl [(3, 1)]) (S_faQ rfl ty_fd_41_0 ty_sz_3 rfl (S_ldQ rfl (p_one ty_ag_3 ty_sz_3 rfl) (S_faQ rfl ty_fd_41_1 ty_sz_3 rfl (S_ldQ rfl (p_one ty_ag_3 ty_sz_3 rfl) (S_faQ rfl ty_fd_41_2 ty_sz_9 rfl (S_ldQ rfl (p_one ty_ag_9 ty_sz_9 rfl) (S_faQ rfl ty_fd_41_4 ty_sz_9 rfl (S_ldQ rfl (p_one ty_ag_9 ty_sz_9 rfl) (S_faQ rfl ty_fd_41_5 ty_sz_3 rfl (S_ldQ rfl (p_one ty_ag_3 ty_sz_3 rfl) (S_bld (v := .agg [.I p0.Kind, .I p0.At, .str p0.Name, .snil, .str p0.Text, .I p0.Refs]) (b_st ty_zc_37 ty_pl_37 rfl) (S_all1 ok rfl ty_zc_37 ?_))))))))))))))
 intro i2 hi2 ok
 refine S_st (j := 0) (cs' := [.I p0.Kind, .I p0.At, .str p0.Name, .snil, .str p0.Text, .I p0.Refs]) ok rfl rfl rfl hi2 rfl ty_sz_37 rfl rfl (fun ok => S_ghostO 0 3 2 (fun r3 => [.I p0.Kind, .I p0.At, .str p0.Name, .sl 2 (List.map cP nP) r3, .str p0.Text, .I p0.Refs]) ok rfl hi2 rfl (fun _ => rfl) ?_)
 intro r3 hr3 ok
 refine Sn ?_
 refine C_join hF (fun (v : Int × Int × LB × (List TP) × LB × Int) s' => match v with | (a16, a17, a18, a19, a21, a22) => ∃ g20 : Nat, g20 ≠ 0 ∧ OK h [(g20, .room), (i2, .cells [.I a16, .I a17, .str a18, .sl 2 (List.map cP a19) g20, .str a21, .I a22]), (i1, .cells [.I 0, .I 0, .str nB, .sl 2 (List.map cP nP) 0, .str nB, .I 0])] ∧ WS s' ⟨mkSl 36 [(2, .ptr i1 0), (3, .ptr i2 0)], Hp h [(g20, .room), (i2, .cells [.I a16, .I a17, .str a18, .sl 2 (List.map cP a19) g20, .str a21, .I a22]), (i1, .cells [.I 0, .I 0, .str nB, .sl 2 (List.map cP nP) 0, .str nB, .I 0])]⟩) (fun J23 hF => ?_) ?_
 ·refine CR (S_faQ rfl ty_fd_41_3 ty_sz_39 rfl (S_ldQ rfl (p_one ty_ag_39 ty_sz_39 rfl) (S_lenL rfl ty_sl_39 (Mi rfl (Sn (WP_block ?_))))))
  refine C_loop (σ := Int × Int × LB × (List TP) × LB × Int × Int) hF (fun (v : Int × Int × LB × (List TP) × LB × Int × Int) s' => match v with | (a24, a25, a26, a27, a29, a30, a31) => ∃ g28 : Nat, g28 ≠ 0 ∧ OK h [(g28, .room), (i2, .cells [.I a24, .I a25, .str a26, .sl 2 (List.map cP a27) g28, .str a29, .I a30]), (i1, .cells [.I 0, .I 0, .str nB, .sl 2 (List.map cP nP) 0, .str nB, .I 0])] ∧ WS s' ⟨mkSl 36 [(2, .ptr i1 0), (3, .ptr i2 0), (18, .sl 2 (List.map cP p0.Pairs) 0), (19, .I (p0.Pairs.length : Int)), (20, .I a31)], Hp h [(g28, .room), (i2, .cells [.I a24, .I a25, .str a26, .sl 2 (List.map cP a27) g28, .str a29, .I a30]), (i1, .cells [.I 0, .I 0, .str nB, .sl 2 (List.map cP nP) 0, .str nB, .I 0])]⟩) ?_ ?_
  ·have hwo : WO [(r3, .room), (i2, .cells [.I p0.Kind, .I p0.At, .str p0.Name, .sl 2 (List.map cP nP) r3, .str p0.Text, .I p0.Refs]), (i1, .cells [.I 0, .I 0, .str nB, .snil, .str nB, .I 0])] [(r3, .room), (i2, .cells [.I p0.Kind, .I p0.At, .str p0.Name, .sl 2 (List.map cP nP) r3, .str p0.Text, .I p0.Refs]), (i1, .cells [.I 0, .I 0, .str nB, .sl 2 (List.map cP nP) 0, .str nB, .I 0])] := (.keep (.keep (.weak (.cons (.refl _) (.cons (.refl _) (.cons (.refl _) (.cons (.nil _) (.refl _))))) .nil)))
   exact ⟨r3, hr3, (hwo.spec ok).1, WS.mk' (.k (.k (.k (.k (.k .nil))))) ok hwo⟩
  ·rintro G32 hG33 rec34 ⟨a24, a25, a26, a27, a29, a30, a31⟩ s' ih35 hF ⟨g28, hg28, ok, hws⟩
   refine WP_ws hws ?_
   clear hws s'
   rw [Fl_doc_l0] at hF
   refine CR (S_bin rfl rfl (ev_lss ..) (Sn (C_seq ?_)))
   refine C_if (b := (decide (a31 < (p0.Pairs.length : Int)))) rfl hF (fun hb36 hF => ?_) (fun hb36 hF => ?_)
   ·refine WP_skip (C_seq (WP_block (C_seq (C_reg (mdl [(5, 1)]) (S_ix rfl rfl ty_sl_39 ty_sz_44 hF (fun x37 _ hF => S_ldQ rfl (p_agg (vs := cP x37) ty_ag_44 ty_sz_44 rfl rfl) (S_all1 ok rfl ty_zc_44 ?_)))))))
    intro i38 hi38 ok
    refine S_st (j := 0) (cs' := [.str x37.Name, .str x37.Value]) ok rfl rfl rfl hi38 rfl ty_sz_44 rfl rfl (fun ok => Sn (C_reg (mdl [(32, 2)]) (S_faP rfl ty_fd_37_3 ty_sz_35 (S_ldP (j := 2) ok rfl rfl rfl hi2 (p_one (v := .sl 2 (List.map cP a27) g28) ty_ag_35 ty_sz_35 rfl) (S_faP rfl ty_fd_44_0 ty_sz_9 (S_ldP (j := 0) ok rfl rfl rfl hi38 (p_one (v := .str x37.Name) ty_ag_9 ty_sz_9 rfl) (S_faP rfl ty_fd_44_1 ty_sz_9 (S_ldP (j := 0) ok rfl rfl rfl hi38 (p_one (v := .str x37.Value) ty_ag_9 ty_sz_9 rfl) (S_bld (v := .agg (cP x37)) (b_st ty_zc_57 ty_pl_57 rfl) ?_)))))))))
    refine S_lit0 (cs := [.str x37.Name, .str x37.Value]) (es := (List.map cP [x37])) rfl ty_el_35 rfl (by kernel_rfl) (by kernel_rfl) ?_
    refine S_app (j := 1) ok rfl rfl rfl rfl hg28 ty_el_35 ty_ni_35 hF ?_
    intro r39 hr39 ok hF
    refine S_faP rfl ty_fd_37_3 ty_sz_35 (S_st (j := 2) (cs' := [.I a24, .I a25, .str a26, .sl 2 (List.map cP (a27 ++ [x37])) r39, .str a29, .I a30]) ok rfl rfl rfl hi2 rfl ty_sz_35 rfl rfl (fun ok => Sn (C_reg (mdl []) (S_bin rfl rfl (ev_add ..) (Mi rfl (Sn (ih35 (a24, a25, a26, (a27 ++ [x37]), a29, a30, (IntKind.wrap .i64 (a31 + (1 : Int)))) _ hF ?_)))))))
    have hwo : WO [(i38, .cells [.str x37.Name, .str x37.Value]), (r39, .room), (i2, .cells [.I a24, .I a25, .str a26, .sl 2 (List.map cP (a27 ++ [x37])) r39, .str a29, .I a30]), (i1, .cells [.I 0, .I 0, .str nB, .sl 2 (List.map cP nP) 0, .str nB, .I 0])] [(r39, .room), (i2, .cells [.I a24, .I a25, .str a26, .sl 2 (List.map cP (a27 ++ [x37])) r39, .str a29, .I a30]), (i1, .cells [.I 0, .I 0, .str nB, .sl 2 (List.map cP nP) 0, .str nB, .I 0])] := (.drop (.keep (.keep (.keep .nil))))
    exact ⟨r39, hr39, (hwo.spec ok).1, WS.mk' (.k (.k (.k (.k (.k .nil))))) ok hwo⟩
   ·refine WP_exit ?_
    simp only [Exit.sel, Exit.blk, Exit.jmp, if_true, if_false, reduceIte, Nat.reduceEqDiff, Nat.succ_ne_zero, Nat.zero_ne_one, Nat.one_ne_zero]
    replace hF := hG33 _ (F_some hF)
    exact ⟨(a24, a25, a26, a27, a29, a30), hF, g28, hg28, ok, WS.mk' (.k (.k .nil)) ok (.refl _)⟩
 ·rintro ⟨a16, a17, a18, a19, a21, a22⟩ s' hF ⟨g20, hg20, ok, hws⟩
  refine WP_ws hws ?_
  clear hws s'
  refine CR (S_ldP (j := 1) ok rfl rfl rfl hi2 (p_agg (vs := [.I a16, .I a17, .str a18, .sl 2 (List.map cP a19) g20, .str a21, .I a22]) ty_ag_37 ty_sz_37 rfl rfl) (S_one 35 (v := .agg (cTR (⟨a16, a17, a18, a19, a21, a22⟩ : TR))) (.aggC (.cons (.refl _) (.cons (.refl _) (.cons (.refl _) (.cons (.zero _ _ _) (.refl _)))))) (S_st (j := 2) (cs' := [.I (⟨a16, a17, a18, a19, a21, a22⟩ : TR).Kind, .I (⟨a16, a17, a18, a19, a21, a22⟩ : TR).At, .str (⟨a16, a17, a18, a19, a21, a22⟩ : TR).Name, .sl 2 (List.map cP (⟨a16, a17, a18, a19, a21, a22⟩ : TR).Pairs) 0, .str (⟨a16, a17, a18, a19, a21, a22⟩ : TR).Text, .I (⟨a16, a17, a18, a19, a21, a22⟩ : TR).Refs]) ok rfl rfl rfl hi1 rfl ty_sz_37 rfl rfl (fun ok => Sn (WP_ret ?_)))))
  with_reducible repeat first | apply Exit.sr | apply Exit.br | apply Exit.jr
  refine C_ret (fn := Tryz.f13) rfl (.cell rfl (ld_ptr (j := 2) ok rfl hi1 (p_agg (vs := [.I (⟨a16, a17, a18, a19, a21, a22⟩ : TR).Kind, .I (⟨a16, a17, a18, a19, a21, a22⟩ : TR).At, .str (⟨a16, a17, a18, a19, a21, a22⟩ : TR).Name, .sl 2 (List.map cP (⟨a16, a17, a18, a19, a21, a22⟩ : TR).Pairs) 0, .str (⟨a16, a17, a18, a19, a21, a22⟩ : TR).Text, .I (⟨a16, a17, a18, a19, a21, a22⟩ : TR).Refs]) ty_ag_37 ty_sz_37 rfl rfl)) .nil) ?_
  exact ⟨_, _, (.refl _), ok.wh, _, F_some hF, rfl, rfl⟩
theorem Fl_doc_ok {β : Type} {f : TR → Option β} {G : β → Prop} {R : D → Heap → Prop} {p0 : TK} (h : Heap) (hF : OptP ((Fl_doc p0).bind f) G) (hk : ∀ r, Fl_doc p0 = some r → OptP (f r) G → R (.agg (cTR r)) h) : CallsA Tryz.prog 13 [.agg (cTK p0)] h R := by
 obtain ⟨r0, hr, hF⟩ := F_bind hF
 refine (Fl_doc_w (G := fun r => r = r0) p0 h ⟨r0, hr, rfl⟩).mono ?_
 rintro _ _ ⟨r, rfl, rfl, rfl⟩
 exact hk _ hr hF
theorem Fc_Same_w (p0 : TR) (p1 : TR) {G : Bool → Prop} (h : Heap) (hF : OptP (Fc_Same p0 p1) G) : CallsA Tryz.prog 12 [.agg (cTR p0), .agg (cTR p1)] h fun d h' => ∃ r, G r ∧ d = .bool r ∧ h' = h := by
 refine CallsA.ret (C_body Tryz.func12 rfl en_12 Tryz.ntmps12 rfl (fun ok => ?_))
 rw [Fc_Same] at hF
 refine CR (S_box0 rfl rfl rfl rfl (S_box0 rfl rfl rfl rfl (Ab rfl (Sn (C_seq (CR (S_faQ rfl ty_fd_37_0 ty_sz_3 rfl (S_ldQ rfl (p_one ty_ag_3 ty_sz_3 rfl) (S_faQ rfl ty_fd_37_0 ty_sz_3 rfl (S_ldQ rfl (p_one ty_ag_3 ty_sz_3 rfl) (S_bin rfl rfl (ev_neq ..) (Mb rfl ?_))))))))))))
 refine S_two (b := (p0.Kind != p1.Kind)) 6 17 (.bool ((p0.Kind != p1.Kind) || (!(p0.Name == p1.Name)))) (fun hb1 => ?_) (fun hb1 => ?_) ?_
 ·refine So rfl rfl hb1 (So rfl rfl hb1 (So rfl rfl hb1 (So rfl rfl hb1 (So rfl rfl hb1 (S_pickT (v := .bool _) rfl hb1 rfl (Sn (.hd (or_t hb1) ?_)))))))
  repeat first | with_reducible exact .refl _ | refine .add ?_ rfl
 ·refine Sx rfl rfl hb1 (S_faQ rfl ty_fd_37_2 ty_sz_9 rfl (Sn (Sx rfl rfl hb1 (S_ldQ rfl (p_one ty_ag_9 ty_sz_9 rfl) (Sn (Sx rfl rfl hb1 (S_faQ rfl ty_fd_37_2 ty_sz_9 rfl (Sn (Sx rfl rfl hb1 (S_ldQ rfl (p_one ty_ag_9 ty_sz_9 rfl) (Sn (Sx rfl rfl hb1 (S_bin rfl rfl e_sneq (Sn (S_pickF (v := .bool _) rfl hb1 rfl (Sn (.hd (or_f hb1) ?_)))))))))))))))))
  repeat first | with_reducible exact .refl _ | refine .add ?_ rfl
 refine Mb rfl ?_
 refine S_two (b := ((p0.Kind != p1.Kind) || (!(p0.Name == p1.Name)))) 6 24 (.bool (((p0.Kind != p1.Kind) || (!(p0.Name == p1.Name))) || (!(p0.Text == p1.Text)))) (fun hb2 => ?_) (fun hb2 => ?_) ?_
 ·refine So rfl rfl hb2 (So rfl rfl hb2 (So rfl rfl hb2 (So rfl rfl hb2 (So rfl rfl hb2 (S_pickT (v := .bool _) rfl hb2 rfl (Sn (.hd (or_t hb2) ?_)))))))
  repeat first | with_reducible exact .refl _ | refine .add ?_ rfl
 ·refine Sx rfl rfl hb2 (S_faQ rfl ty_fd_37_4 ty_sz_9 rfl (Sn (Sx rfl rfl hb2 (S_ldQ rfl (p_one ty_ag_9 ty_sz_9 rfl) (Sn (Sx rfl rfl hb2 (S_faQ rfl ty_fd_37_4 ty_sz_9 rfl (Sn (Sx rfl rfl hb2 (S_ldQ rfl (p_one ty_ag_9 ty_sz_9 rfl) (Sn (Sx rfl rfl hb2 (S_bin rfl rfl e_sneq (Sn (S_pickF (v := .bool _) rfl hb2 rfl (Sn (.hd (or_f hb2) ?_)))))))))))))))))
  repeat first | with_reducible exact .refl _ | refine .add ?_ rfl
 refine Mb rfl ?_
 refine S_two (b := (((p0.Kind != p1.Kind) || (!(p0.Name == p1.Name))) || (!(p0.Text == p1.Text)))) 6 31 (.bool ((((p0.Kind != p1.Kind) || (!(p0.Name == p1.Name))) || (!(p0.Text == p1.Text))) || (p0.Refs != p1.Refs))) (fun hb3 => ?_) (fun hb3 => ?_) ?_
 ·refine So rfl rfl hb3 (So rfl rfl hb3 (So rfl rfl hb3 (So rfl rfl hb3 (So rfl rfl hb3 (S_pickT (v := .bool _) rfl hb3 rfl (Sn (.hd (or_t hb3) ?_)))))))
  repeat first | with_reducible exact .refl _ | refine .add ?_ rfl
 ·refine Sx rfl rfl hb3 (S_faQ rfl ty_fd_37_5 ty_sz_3 rfl (Sn (Sx rfl rfl hb3 (S_ldQ rfl (p_one ty_ag_3 ty_sz_3 rfl) (Sn (Sx rfl rfl hb3 (S_faQ rfl ty_fd_37_5 ty_sz_3 rfl (Sn (Sx rfl rfl hb3 (S_ldQ rfl (p_one ty_ag_3 ty_sz_3 rfl) (Sn (Sx rfl rfl hb3 (S_bin rfl rfl (ev_neq ..) (Sn (S_pickF (v := .bool _) rfl hb3 rfl (Sn (.hd (or_f hb3) ?_)))))))))))))))))
  repeat first | with_reducible exact .refl _ | refine .add ?_ rfl
 refine Mb rfl ?_
 refine S_two (b := ((((p0.Kind != p1.Kind) || (!(p0.Name == p1.Name))) || (!(p0.Text == p1.Text))) || (p0.Refs != p1.Refs))) 8 40 (.bool (((((p0.Kind != p1.Kind) || (!(p0.Name == p1.Name))) || (!(p0.Text == p1.Text))) || (p0.Refs != p1.Refs)) || ((p0.Pairs.length : Int) != (p1.Pairs.length : Int)))) (fun hb4 => ?_) (fun hb4 => ?_) ?_
 ·refine So rfl rfl hb4 (So rfl rfl hb4 (So rfl rfl hb4 (So rfl rfl hb4 (So rfl rfl hb4 (So rfl rfl hb4 (So rfl rfl hb4 (S_pickT (v := .bool _) rfl hb4 rfl (Sn (.hd (or_t hb4) ?_)))))))))
  repeat first | with_reducible exact .refl _ | refine .add ?_ rfl
 ·refine Sx rfl rfl hb4 (S_faQ rfl ty_fd_37_3 ty_sz_35 rfl (Sn (Sx rfl rfl hb4 (S_ldQ rfl (p_one ty_ag_35 ty_sz_35 rfl) (Sn (Sx rfl rfl hb4 (S_lenL rfl ty_sl_35 (Sn (Sx rfl rfl hb4 (S_faQ rfl ty_fd_37_3 ty_sz_35 rfl (Sn (Sx rfl rfl hb4 (S_ldQ rfl (p_one ty_ag_35 ty_sz_35 rfl) (Sn (Sx rfl rfl hb4 (S_lenL rfl ty_sl_35 (Sn (Sx rfl rfl hb4 (S_bin rfl rfl (ev_neq ..) (Sn (S_pickF (v := .bool _) rfl hb4 rfl (Sn (.hd (or_f hb4) ?_)))))))))))))))))))))))
  repeat first | with_reducible exact .refl _ | refine .add ?_ rfl
 refine Sn ?_
 refine C_if (b := (((((p0.Kind != p1.Kind) || (!(p0.Name == p1.Name))) || (!(p0.Text == p1.Text))) || (p0.Refs != p1.Refs)) || ((p0.Pairs.length : Int) != (p1.Pairs.length : Int)))) rfl hF (fun hb5 hF => ?_) (fun hb5 hF => ?_)
 ·refine CR (Ab rfl (Sn (WP_ret ?_)))
  with_reducible repeat first | apply Exit.sr | apply Exit.br | apply Exit.jr
  refine C_ret (fn := Tryz.f12) rfl (.tmp (v := .bool false) rfl .nil) ?_
  exact ⟨_, _, (.refl _), ok.wh, _, F_some hF, rfl, rfl⟩
 ·refine WP_skip ?_
  refine C_join hF (fun (_ : Unit) s' => OK h [] ∧ WS s' ⟨mkSl 59 [], Hp h []⟩) (fun J11 hF => ?_) ?_
  ·refine CR (S_faQ rfl ty_fd_37_3 ty_sz_35 rfl (S_ldQ rfl (p_one ty_ag_35 ty_sz_35 rfl) (S_lenL rfl ty_sl_35 (Mi rfl (Sn (WP_block ?_))))))
   refine C_loop (σ := Int) hF (fun (a12 : Int) s' => OK h [] ∧ WS s' ⟨mkSl 59 [(2, .iptr (cTR p0)), (3, .iptr (cTR p1)), (43, .I (p0.Pairs.length : Int)), (44, .I a12)], Hp h []⟩) ?_ ?_
   ·exact ⟨ok, WS.mk' (.k (.k (.k (.k .nil)))) ok (.refl _)⟩
   ·rintro G13 hG14 rec15 a12 s' ih16 hF ⟨ok, hws⟩
    refine WP_ws hws ?_
    clear hws s'
    rw [Fc_Same_l0] at hF
    refine CR (S_bin rfl rfl (ev_lss ..) (Sn (C_seq ?_)))
    refine C_if (b := (decide (a12 < (p0.Pairs.length : Int)))) rfl hF (fun hb17 hF => ?_) (fun hb17 hF => ?_)
    ·refine WP_skip (C_seq (WP_block (CR (Mi rfl (Ai rfl (Sn (C_seq ?_)))))))
     refine C_drw (mdl [(48, 3), (51, 3), (53, 3), (56, 3)]) (by kernel_rfl) (by kernel_rfl) ?_
     refine S_faQ rfl ty_fd_37_3 ty_sz_35 rfl (S_ldQ rfl (p_one ty_ag_35 ty_sz_35 rfl) (Mi rfl (S_ix rfl rfl ty_sl_35 ty_sz_57 hF (fun x18 _ hF => S_ldQ rfl (p_agg (vs := cP x18) ty_ag_57 ty_sz_57 rfl rfl) (S_faQ rfl ty_fd_37_3 ty_sz_35 rfl (S_ldQ rfl (p_one ty_ag_35 ty_sz_35 rfl) (Mi rfl (S_ix rfl rfl ty_sl_35 ty_sz_57 hF (fun x19 _ hF => S_ldQ rfl (p_agg (vs := cP x19) ty_ag_57 ty_sz_57 rfl rfl) ?_)))))))))
     refine S_bin rfl rfl (e_aggn (b := ((x18.Name == x19.Name) && ((x18.Value == x19.Value) && true))) ty_qg_57 ty_sf_57 (by simp only [cP, ev_eqF_cons, ev_eqF_nil, ev_part, ty_sf_57, ty_qg_57, ty_ag_9, ty_sz_9, ty_st_9, ty_ag_9, ty_sz_9, ty_st_9, ev_eq_int, ev_eq_str, ev_eq_bool, ev_eq_agg, ev_eq_int2, ev_eq_str2, ev_eq_bool2, List.drop_zero, List.drop_succ_cons, List.length_cons, List.length_nil, List.take_succ_cons, List.take_zero, Option.isSome_some, if_true, Option.bind_some, Option.map_some, Nat.reduceAdd, Nat.reduceLeDiff])) ?_
     refine Sn ?_
     refine C_if (b := (!((x18.Name == x19.Name) && ((x18.Value == x19.Value) && true)))) rfl hF (fun hb20 hF => ?_) (fun hb20 hF => ?_)
     ·refine CR (Ab rfl (Sn (WP_ret ?_)))
      replace hF := hG14 _ (F_some hF)
      with_reducible repeat first | apply Exit.sr | apply Exit.br | apply Exit.jr
      refine C_ret (fn := Tryz.f12) rfl (.tmp (v := .bool false) rfl .nil) ?_
      exact ⟨_, _, (.refl _), ok.wh, _, F_some hF, rfl, rfl⟩
     ·refine WP_skip (C_reg (mdl []) (S_bin rfl rfl (ev_add ..) (Mi rfl (Sn (ih16 (IntKind.wrap .i64 (a12 + (1 : Int))) _ hF ?_)))))
      exact ⟨ok, WS.mk' (.k (.k (.k (.k .nil)))) ok (.refl _)⟩
    ·refine WP_exit ?_
     simp only [Exit.sel, Exit.blk, Exit.jmp, if_true, if_false, reduceIte, Nat.reduceEqDiff, Nat.succ_ne_zero, Nat.zero_ne_one, Nat.one_ne_zero]
     replace hF := hG14 _ (F_some hF)
     exact ⟨(), hF, ok, WS.mk' .nil ok (.refl _)⟩
  ·rintro ⟨⟩ s' hF ⟨ok, hws⟩
   refine WP_ws hws ?_
   clear hws s'
   refine CR (Ab rfl (Sn (WP_ret ?_)))
   with_reducible repeat first | apply Exit.sr | apply Exit.br | apply Exit.jr
   refine C_ret (fn := Tryz.f12) rfl (.tmp (v := .bool true) rfl .nil) ?_
   exact ⟨_, _, (.refl _), ok.wh, _, F_some hF, rfl, rfl⟩
theorem Fc_Same_ok {β : Type} {f : Bool → Option β} {G : β → Prop} {R : D → Heap → Prop} {p0 : TR} {p1 : TR} (h : Heap) (hF : OptP ((Fc_Same p0 p1).bind f) G) (hk : ∀ r, Fc_Same p0 p1 = some r → OptP (f r) G → R (.bool r) h) : CallsA Tryz.prog 12 [.agg (cTR p0), .agg (cTR p1)] h R := by
 obtain ⟨r0, hr, hF⟩ := F_bind hF
 refine (Fc_Same_w (G := fun r => r = r0) p0 p1 h ⟨r0, hr, rfl⟩).mono ?_
 rintro _ _ ⟨r, rfl, rfl, rfl⟩
 exact hk _ hr hF
theorem Fl_ScanReads_w (p0 : LB) {G : Bool → Prop} (h : Heap) (hF : OptP (Fl_ScanReads p0) G) : CallsA Tryz.prog 3 [.sl 1 (List.map c_u8 p0) 0] h fun d h' => ∃ r, G r ∧ d = .bool r := by
 refine CallsA.ret (C_body Tryz.func3 rfl en_3 Tryz.ntmps3 rfl (fun ok => ?_))
 rw [Fl_ScanReads] at hF
 refine CR (Ab rfl (Sn (C_seq (CR (S_call (Fl_awake_ok _ hF fun x1 _ hF => (S_un rfl (ev_not _) (Sn ?_))) (.nil))))))
 refine C_if (b := (!x1)) rfl hF (fun hb2 hF => ?_) (fun hb2 hF => ?_)
 ·refine CR (Ab rfl (Sn (WP_ret ?_)))
  with_reducible repeat first | apply Exit.sr | apply Exit.br | apply Exit.jr
  refine C_ret (fn := Tryz.f3) rfl (.tmp (v := .bool false) rfl .nil) ?_
  exact ⟨_, _, (.refl _), WH.refl _, _, F_some hF, rfl⟩
 ·refine WP_skip (CR (Ml rfl (S_call (Fa_Spare_ok _ hF fun x3 _ hF => (S_a (v := .slx _ _ _) rfl (Sn (CR (S_m (v := .slx _ _ _) rfl (S_call (F_scan_All_ok _ hF fun x4 _ hF => (S_m (v := .tup _) rfl (S_ext rfl rfl (S_ext rfl rfl (S_ext rfl rfl (S_a (v := .sl _ _ _) rfl (Ai rfl (Ai rfl (Sn (CR (Ml rfl (S_call (Fc_All_ok _ hF fun x5 _ hF => (S_m (v := .tup _) rfl (S_ext rfl rfl (S_ext rfl rfl (S_ext rfl rfl (S_a (v := .sl _ _ _) rfl (Ai rfl (Ai rfl (Sn (C_seq ?_)))))))))) (.refl _))))))))))))) (.cons (.slx _ _ _) (.nil)))))))) (.refl _))))
  refine C_join hF (fun (a21 : Bool) s' => OK h [] ∧ WS s' ⟨mkSl 86 [(4, .sl 6 (List.map cTK x4.1) 0), (7, .sl 6 (List.map cTR x5.1) 0), (55, .bool a21)], Hp h []⟩) (fun J22 hF => ?_) ?_
  ·refine C_fork (mdl []) [0, 1, 2, 3, 4, 5, 6, 7, 8, 9, 10, 11, 12, 13, 14, 15, 16, 19, 17] [18, 20, 21, 22, 23, 24, 25, 26, 27, 28] [20, 18, 21, 22, 23, 24, 25, 26, 27, 28] [_, _, _, _, _, _, _, _, _, _, _, _, _, _, _, _, _, _, _] [_, _, _, _, _, _, _, _, _, _] [_, _, _, _, _, _, _, _, _, _] (by kernel_rfl) rfl rfl rfl rfl (by kernel_rfl) ?_
   refine Mi rfl (Mi rfl (S_bin rfl rfl (ev_neq ..) (Mb rfl ?_)))
   refine S_if (b := (x4.2.2 != x5.2.2)) hF (fun hb23 hF => ?_) (fun hb24 hF => ?_)
   ·refine So rfl rfl hb23 (So rfl rfl hb23 (So rfl rfl hb23 (S_pickT (v := .bool _) rfl hb23 rfl (Mb rfl (So rfl rfl rfl (So rfl rfl rfl (So rfl rfl rfl (So rfl rfl rfl (So rfl rfl rfl (S_pickT (v := .bool _) rfl rfl rfl (Mb rfl (So rfl rfl rfl (So rfl rfl rfl (So rfl rfl rfl (Sn ?_)))))))))))))))
    refine ⟨?_, ?_⟩
    ·refine So rfl rfl rfl (So rfl rfl rfl (So rfl rfl rfl (S_pickT (v := .bool _) rfl rfl rfl (Mb rfl (So rfl rfl rfl (So rfl rfl rfl (So rfl rfl rfl (So rfl rfl rfl (S_pickT (v := .bool _) rfl rfl rfl (Sn ?_))))))))))
     exact ⟨true, hF, ok, WS.mk' (.k (.k (.k .nil))) ok (.refl _)⟩
    ·refine So rfl rfl rfl (So rfl rfl rfl (So rfl rfl rfl (S_pickT (v := .bool _) rfl rfl rfl (Mb rfl (So rfl rfl rfl (So rfl rfl rfl (So rfl rfl rfl (So rfl rfl rfl (S_pickT (v := .bool _) rfl rfl rfl (Sn ?_))))))))))
     exact ⟨true, hF, ok, WS.mk' (.k (.k (.k .nil))) ok (.refl _)⟩
   ·refine Sx rfl rfl hb24 (Mi rfl (Sn (Sx rfl rfl hb24 (Mi rfl (Sn (Sx rfl rfl hb24 (S_bin rfl rfl (ev_neq ..) (Sn (S_pickF (v := .bool _) rfl hb24 rfl (Mb rfl ?_))))))))))
    refine S_if (b := (x4.2.1 != x5.2.1)) hF (fun hb25 hF => ?_) (fun hb26 hF => ?_)
    ·refine So rfl rfl hb25 (So rfl rfl hb25 (So rfl rfl hb25 (So rfl rfl hb25 (So rfl rfl hb25 (S_pickT (v := .bool _) rfl hb25 rfl (Mb rfl (So rfl rfl rfl (So rfl rfl rfl (So rfl rfl rfl (Sn ?_))))))))))
     refine ⟨?_, ?_⟩
     ·refine So rfl rfl rfl (So rfl rfl rfl (So rfl rfl rfl (S_pickT (v := .bool _) rfl rfl rfl (Mb rfl (So rfl rfl rfl (So rfl rfl rfl (So rfl rfl rfl (So rfl rfl rfl (S_pickT (v := .bool _) rfl rfl rfl (Sn ?_))))))))))
      exact ⟨true, hF, ok, WS.mk' (.k (.k (.k .nil))) ok (.refl _)⟩
     ·refine So rfl rfl rfl (So rfl rfl rfl (So rfl rfl rfl (S_pickT (v := .bool _) rfl rfl rfl (Mb rfl (So rfl rfl rfl (So rfl rfl rfl (So rfl rfl rfl (So rfl rfl rfl (S_pickT (v := .bool _) rfl rfl rfl (Sn ?_))))))))))
      exact ⟨true, hF, ok, WS.mk' (.k (.k (.k .nil))) ok (.refl _)⟩
    ·refine Sx rfl rfl hb26 (Ml rfl (Sn (Sx rfl rfl hb26 (S_lenL rfl ty_sl_25 (Sn (Sx rfl rfl hb26 (Ml rfl (Sn (Sx rfl rfl hb26 (S_lenL rfl ty_sl_29 (Sn (Sx rfl rfl hb26 (S_bin rfl rfl (ev_neq ..) (Sn (S_pickF (v := .bool _) rfl hb26 rfl (Mb rfl ?_))))))))))))))))
     refine S_if (b := ((x4.1.length : Int) != (x5.1.length : Int))) hF (fun hb27 hF => ?_) (fun hb28 hF => ?_)
     ·refine So rfl rfl hb27 (So rfl rfl hb27 (So rfl rfl hb27 (Sn ?_)))
      refine ⟨?_, ?_⟩
      ·refine So rfl rfl hb27 (So rfl rfl hb27 (So rfl rfl hb27 (S_pickT (v := .bool _) rfl hb27 rfl (Mb rfl (So rfl rfl rfl (So rfl rfl rfl (So rfl rfl rfl (So rfl rfl rfl (S_pickT (v := .bool _) rfl rfl rfl (Sn ?_))))))))))
       exact ⟨true, hF, ok, WS.mk' (.k (.k (.k .nil))) ok (.refl _)⟩
      ·refine So rfl rfl hb27 (So rfl rfl hb27 (So rfl rfl hb27 (S_pickT (v := .bool _) rfl hb27 rfl (Mb rfl (So rfl rfl rfl (So rfl rfl rfl (So rfl rfl rfl (So rfl rfl rfl (S_pickT (v := .bool _) rfl rfl rfl (Sn ?_))))))))))
       exact ⟨true, hF, ok, WS.mk' (.k (.k (.k .nil))) ok (.refl _)⟩
     ·refine Sx rfl rfl hb28 (S_m (v := .slx _ _ _) rfl (Sn (Sx rfl rfl hb28 (Ml rfl (Sn (Sx rfl rfl hb28 (S_call (F_scan_Plain_ok _ hF fun x29 _ hF => (Sn (Sn ?_))) (.cons (.slx _ _ _) (.nil)))))))))
      refine ⟨?_, ?_⟩
      ·refine Sx rfl rfl hb28 (S_conv rfl (e_cbs ty_sl_22 ty_ki_5 ty_st_9) (Sn (Sx rfl rfl hb28 (S_call (Fc_Text_ok _ hF fun x30 _ hF => (Sn (Sx rfl rfl hb28 (S_bin rfl rfl e_sneq (Sn (S_pickF (v := .bool _) rfl hb28 rfl (Mb rfl ?_))))))) (.refl _)))))
       refine S_if (b := (!(x29 == x30))) hF (fun hb31 hF => ?_) (fun hb32 hF => ?_)
       ·refine So rfl rfl hb31 (So rfl rfl hb31 (So rfl rfl hb31 (So rfl rfl hb31 (S_pickT (v := .bool _) rfl hb31 rfl (Sn ?_)))))
        exact ⟨true, hF, ok, WS.mk' (.k (.k (.k .nil))) ok (.refl _)⟩
       ·refine Sx rfl rfl hb32 (S_m (v := .slx _ _ _) rfl (Sn (Sx rfl rfl hb32 (Ml rfl (Sn (Sx rfl rfl hb32 (S_call (Fa_Kept_ok _ hF fun x33 _ hF => (Sn (Sx rfl rfl hb32 (S_un rfl (ev_not _) (Sn (S_pickF (v := .bool _) rfl hb32 rfl (Sn ?_))))))) (.refl _))))))))
        exact ⟨(!x33), hF, ok, WS.mk' (.k (.k (.k .nil))) ok (.refl _)⟩
      ·refine Sx rfl rfl hb28 (S_call (Fc_Text_ok _ hF fun x34 _ hF => (Sn (Sx rfl rfl hb28 (S_conv rfl (e_cbs ty_sl_22 ty_ki_5 ty_st_9) (Sn (Sx rfl rfl hb28 (S_bin rfl rfl e_sneq (Sn (S_pickF (v := .bool _) rfl hb28 rfl (Mb rfl ?_)))))))))) (.refl _))
       refine S_if (b := (!(x29 == x34))) hF (fun hb35 hF => ?_) (fun hb36 hF => ?_)
       ·refine So rfl rfl hb35 (So rfl rfl hb35 (So rfl rfl hb35 (So rfl rfl hb35 (S_pickT (v := .bool _) rfl hb35 rfl (Sn ?_)))))
        exact ⟨true, hF, ok, WS.mk' (.k (.k (.k .nil))) ok (.refl _)⟩
       ·refine Sx rfl rfl hb36 (S_m (v := .slx _ _ _) rfl (Sn (Sx rfl rfl hb36 (Ml rfl (Sn (Sx rfl rfl hb36 (S_call (Fa_Kept_ok _ hF fun x37 _ hF => (Sn (Sx rfl rfl hb36 (S_un rfl (ev_not _) (Sn (S_pickF (v := .bool _) rfl hb36 rfl (Sn ?_))))))) (.refl _))))))))
        exact ⟨(!x37), hF, ok, WS.mk' (.k (.k (.k .nil))) ok (.refl _)⟩
  ·rintro a21 s' hF ⟨ok, hws⟩
   refine WP_ws hws ?_
   clear hws s'
   refine C_if (b := a21) rfl hF (fun hb38 hF => ?_) (fun hb38 hF => ?_)
   ·refine CR (Ab rfl (Sn (WP_ret ?_)))
    with_reducible repeat first | apply Exit.sr | apply Exit.br | apply Exit.jr
    refine C_ret (fn := Tryz.f3) rfl (.tmp (v := .bool false) rfl .nil) ?_
    exact ⟨_, _, (.refl _), WH.refl _, _, F_some hF, rfl⟩
   ·refine WP_skip ?_
    refine C_join hF (fun (_ : Unit) s' => OK h [] ∧ WS s' ⟨mkSl 86 [], Hp h []⟩) (fun J59 hF => ?_) ?_
    ·refine CR (Ml rfl (S_lenL rfl ty_sl_25 (Mi rfl (Sn (WP_block ?_)))))
     refine C_loop (σ := Int) hF (fun (a60 : Int) s' => OK h [] ∧ WS s' ⟨mkSl 86 [(4, .sl 6 (List.map cTK x4.1) 0), (7, .sl 6 (List.map cTR x5.1) 0), (57, .I (x4.1.length : Int)), (58, .I a60)], Hp h []⟩) ?_ ?_
     ·exact ⟨ok, WS.mk' (.k (.k (.k (.k .nil)))) ok (.refl _)⟩
     ·rintro G61 hG62 rec63 a60 s' ih64 hF ⟨ok, hws⟩
      refine WP_ws hws ?_
      clear hws s'
      rw [Fl_ScanReads_l0] at hF
      refine CR (S_bin rfl rfl (ev_lss ..) (Sn (C_seq ?_)))
      refine C_if (b := (decide (a60 < (x4.1.length : Int)))) rfl hF (fun hb65 hF => ?_) (fun hb65 hF => ?_)
      ·refine WP_skip (C_seq (WP_block (CR (Mi rfl (Ai rfl (Sn ?_))))))
       refine C_join hF (fun (a74 : Bool) s' => OK h [] ∧ WS s' ⟨mkSl 86 [(4, .sl 6 (List.map cTK x4.1) 0), (7, .sl 6 (List.map cTR x5.1) 0), (57, .I (x4.1.length : Int)), (58, .I a60), (84, .bool a74)], Hp h []⟩) (fun J75 hF => ?_) ?_
       ·refine C_plan (mdl [(64, 3), (69, 3), (77, 3), (82, 3)]) [0, 1, 2, 3, 5, 6, 7, 8, 4, 9, 10, 11, 12, 13, 14, 15, 16, 17, 18, 19, 20, 21, 22, 23] [_, _, _, _, _, _, _, _, _, _, _, _, _, _, _, _, _, _, _, _, _, _, _, _] (by kernel_rfl) rfl rfl (by kernel_rfl) ?_
        refine Ml rfl (Mi rfl (S_ix rfl rfl ty_sl_25 ty_sz_41 hF (fun x76 _ hF => S_ldQ rfl (p_agg (vs := cTK x76) ty_ag_41 ty_sz_41 rfl rfl) (Ml rfl (Mi rfl (S_ix rfl rfl ty_sl_29 ty_sz_37 hF (fun x77 _ hF => S_ldQ rfl (p_agg (vs := cTR x77) ty_ag_37 ty_sz_37 rfl rfl) (S_call (Fl_doc_ok _ hF fun x78 _ hF => (S_call (Fc_Same_ok _ hF fun x79 _ hF => (S_un rfl (ev_not _) (Mb rfl ?_))) (.refl _))) (.refl _)))))))))
        refine S_if (b := (!x79)) hF (fun hb80 hF => ?_) (fun hb81 hF => ?_)
        ·refine So rfl rfl hb80 (So rfl rfl hb80 (So rfl rfl hb80 (So rfl rfl hb80 (So rfl rfl hb80 (So rfl rfl hb80 (So rfl rfl hb80 (So rfl rfl hb80 (So rfl rfl hb80 (So rfl rfl hb80 (So rfl rfl hb80 (S_pickT (v := .bool _) rfl hb80 rfl (Sn ?_))))))))))))
         exact ⟨true, hF, ok, WS.mk' (.k (.k (.k (.k (.k .nil))))) ok (.refl _)⟩
        ·refine Sx rfl rfl hb81 (Ml rfl (Sn (Sx rfl rfl hb81 (Mi rfl (Sn (Sx rfl rfl hb81 (S_ix rfl rfl ty_sl_25 ty_sz_41 hF (fun x82 _ hF => Sn (Sx rfl rfl hb81 (S_faQ rfl ty_fd_41_1 ty_sz_3 rfl (Sn (Sx rfl rfl hb81 (S_ldQ rfl (p_one ty_ag_3 ty_sz_3 rfl) (Sn (Sx rfl rfl hb81 (Ml rfl (Sn (Sx rfl rfl hb81 (Mi rfl (Sn (Sx rfl rfl hb81 (S_ix rfl rfl ty_sl_29 ty_sz_37 hF (fun x83 _ hF => Sn (Sx rfl rfl hb81 (S_faQ rfl ty_fd_37_1 ty_sz_3 rfl (Sn (Sx rfl rfl hb81 (S_ldQ rfl (p_one ty_ag_3 ty_sz_3 rfl) (Sn ?_)))))))))))))))))))))))))))))
         refine Sx rfl rfl hb81 (S_bin rfl rfl (ev_neq ..) (Sn (S_pickF (v := .bool _) rfl hb81 rfl (Sn ?_))))
         exact ⟨(x82.At != x83.At), hF, ok, WS.mk' (.k (.k (.k (.k (.k .nil))))) ok (.refl _)⟩
       ·rintro a74 s' hF ⟨ok, hws⟩
        refine WP_ws hws ?_
        clear hws s'
        refine C_if (b := a74) rfl hF (fun hb84 hF => ?_) (fun hb84 hF => ?_)
        ·refine CR (Ab rfl (Sn (WP_ret ?_)))
         replace hF := hG62 _ (F_some hF)
         with_reducible repeat first | apply Exit.sr | apply Exit.br | apply Exit.jr
         refine C_ret (fn := Tryz.f3) rfl (.tmp (v := .bool false) rfl .nil) ?_
         exact ⟨_, _, (.refl _), WH.refl _, _, F_some hF, rfl⟩
        ·refine WP_skip (C_reg (mdl []) (S_bin rfl rfl (ev_add ..) (Mi rfl (Sn (ih64 (IntKind.wrap .i64 (a60 + (1 : Int))) _ hF ?_)))))
         exact ⟨ok, WS.mk' (.k (.k (.k (.k .nil)))) ok (.refl _)⟩
      ·refine WP_exit ?_
       simp only [Exit.sel, Exit.blk, Exit.jmp, if_true, if_false, reduceIte, Nat.reduceEqDiff, Nat.succ_ne_zero, Nat.zero_ne_one, Nat.one_ne_zero]
       replace hF := hG62 _ (F_some hF)
       exact ⟨(), hF, ok, WS.mk' .nil ok (.refl _)⟩
    ·rintro ⟨⟩ s' hF ⟨ok, hws⟩
     refine WP_ws hws ?_
     clear hws s'
     refine CR (Ab rfl (Sn (WP_ret ?_)))
     with_reducible repeat first | apply Exit.sr | apply Exit.br | apply Exit.jr
     refine C_ret (fn := Tryz.f3) rfl (.tmp (v := .bool true) rfl .nil) ?_
     exact ⟨_, _, (.refl _), WH.refl _, _, F_some hF, rfl⟩
end Go.Proofs.YtfokkdofcekdbaaGreatDoor
