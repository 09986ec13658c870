/- The walks. No condition. -/
import Derived.Test.YtfokkdofcekdbaaGreatDoorWk1
set_option linter.unusedVariables false
set_option linter.unusedSimpArgs false
set_option maxRecDepth 20000
set_option maxHeartbeats 8000000
namespace Go.Proofs.YtfokkdofcekdbaaGreatDoor
theorem Fs_instr_w (p0 : TS) (p1 : TK) (q0 : Nat) (q1 : Nat) (b1_3 : Nat) {G : Int × TS × TK → Prop} (h : Heap) (O : List (Nat × AObj)) (hq0 : q0 ≠ 0) (hq1 : q1 ≠ 0) (zb1_3 : b1_3 = 0 → p1.Pairs = []) (ok : OK h ((cSc q0 p0) :: (cTk q1 b1_3 p1) :: mo b1_3 cP p1.Pairs :: O)) (hF : OptP (Fs_instr p0 p1) G) : CallsA Tryz.prog 28 [.ptr q0 0, .ptr q1 0] (Hp h ((cSc q0 p0) :: (cTk q1 b1_3 p1) :: mo b1_3 cP p1.Pairs :: O)) fun d h' => ∃ r, G r ∧ d = .I r.1 ∧ ∃ b1_3' : Nat, (b1_3' = 0 → r.2.2.Pairs = []) ∧ OK h ((cSc q0 r.2.1) :: (cTk q1 b1_3' r.2.2) :: mo b1_3' cP r.2.2.Pairs :: O) ∧ h' = Hp h ((cSc q0 r.2.1) :: (cTk q1 b1_3' r.2.2) :: mo b1_3' cP r.2.2.Pairs :: O) := by
 refine CallsA.ret (C_bodyO Tryz.func28 rfl en_28 Tryz.ntmps28 rfl ?_)
 rw [Fs_instr] at hF
 refine CR (Ai rfl (Sn (CR (Mp rfl (S_nilc (v := .ptr _ _) rfl rfl (S_faP rfl ty_fd_41_0 ty_sz_3 (S_st (j := 1) (cs' := [.I 8, .I p1.At, .str p1.Name, mslO 2 b1_3 p1.Pairs, .str p1.Text, .I p1.Refs]) ok rfl rfl rfl hq1 rfl ty_sz_3 rfl rfl (fun ok => Sn (CR (Mp rfl (S_nilc (v := .ptr _ _) rfl rfl (S_faP rfl ty_fd_47_1 ty_sz_3 (S_ldP (j := 0) ok rfl rfl rfl hq0 (p_one (v := .I p0.at_) ty_ag_3 ty_sz_3 rfl) (S_bin rfl rfl (ev_add ..) (S_nilc (v := .ptr _ _) rfl rfl (S_faP rfl ty_fd_47_1 ty_sz_3 (S_st (j := 0) (cs' := [.sl 1 (List.map c_u8 p0.b) 0, .I (IntKind.wrap .i64 (p0.at_ + (2 : Int)))]) ok rfl rfl rfl hq0 rfl ty_sz_3 rfl rfl (fun ok => Sn (CR (Mp rfl (S_call (Fs_name_ok (p0 := (⟨p0.b, (IntKind.wrap .i64 (p0.at_ + (2 : Int)))⟩ : TS)) (q0 := q0) h _ hq0 ok hF fun x1 _  ok hF => (S_m (v := .tup _) rfl (S_ext rfl rfl (S_ext rfl rfl (S_a (v := .str _) rfl (Ai rfl (Sn (C_seq (WP_block (CR (Mi rfl (S_bin rfl rfl (ev_neq ..) (Ab rfl (Sn ?_)))))))))))))) (.refl _))))))))))))))))))))))
 refine C_if (b := (x1.1.2 != (0 : Int))) rfl hF (fun hb2 hF => ?_) (fun hb2 hF => ?_)
 ·refine CR (Mi rfl (Ai rfl (Sn (WP_ret ?_))))
  with_reducible repeat first | apply Exit.sr | apply Exit.br | apply Exit.jr
  refine C_ret (fn := Tryz.f28) rfl (.tmp (v := .I x1.1.2) rfl .nil) ?_
  exact ⟨_, _, (.refl _), .refl _, _, F_some hF, rfl, b1_3, zb1_3, ok, rfl⟩
 ·refine CR (Ms rfl (S_call (Fh_Name_ok _ hF fun x3 _ hF => (S_un rfl (ev_not _) (Ab rfl (Sn ?_)))) (.refl _)))
  refine C_if (b := (!x3)) rfl hF (fun hb4 hF => ?_) (fun hb4 hF => ?_)
  ·refine CR (Ai rfl (Sn (WP_ret ?_)))
   with_reducible repeat first | apply Exit.sr | apply Exit.br | apply Exit.jr
   refine C_ret (fn := Tryz.f28) rfl (.tmp (v := .I 24) rfl .nil) ?_
   exact ⟨_, _, (.refl _), .refl _, _, F_some hF, rfl, b1_3, zb1_3, ok, rfl⟩
  ·refine CR (Ms rfl (S_call (Fq_ok _ hF fun x5 _ hF => (Ab rfl (Sn ?_))) (.refl _)))
   refine C_if (b := x5) rfl hF (fun hb6 hF => ?_) (fun hb6 hF => ?_)
   ·refine CR (Ai rfl (Sn (WP_ret ?_)))
    with_reducible repeat first | apply Exit.sr | apply Exit.br | apply Exit.jr
    refine C_ret (fn := Tryz.f28) rfl (.tmp (v := .I 29) rfl .nil) ?_
    exact ⟨_, _, (.refl _), .refl _, _, F_some hF, rfl, b1_3, zb1_3, ok, rfl⟩
   ·refine WP_skip (CR (Mp rfl (Ms rfl (S_nilc (v := .ptr _ _) rfl rfl (S_faP rfl ty_fd_41_2 ty_sz_9 (S_st (j := 1) (cs' := [.I 8, .I p1.At, .str x1.1.1, mslO 2 b1_3 p1.Pairs, .str p1.Text, .I p1.Refs]) ok rfl rfl rfl hq1 rfl ty_sz_9 rfl rfl (fun ok => Sn (C_seq (CR (Mp rfl (S_call (Fs_here_ok (p0 := x1.2) (q0 := q0) h _ hq0 ok hF fun x7 _  ok hF => (Sn ?_)) (.refl _))))))))))))
    refine C_if (b := x7) rfl hF (fun hb8 hF => ?_) (fun hb8 hF => ?_)
    ·refine CR (Mp rfl (S_call (Fs_sign_ok (p0 := x1.2) (q0 := q0) h _ hq0 ok hF fun x9 _  ok hF => (Ai rfl (Sn (WP_ret ?_)))) (.refl _)))
     with_reducible repeat first | apply Exit.sr | apply Exit.br | apply Exit.jr
     refine C_ret (fn := Tryz.f28) rfl (.tmp (v := .I x9.1) rfl .nil) ?_
     exact ⟨_, _, (.refl _), .refl _, _, F_some hF, rfl, b1_3, zb1_3, ok, rfl⟩
    ·refine WP_skip (CR (Mp rfl (Mp rfl (S_nilc (v := .ptr _ _) rfl rfl (S_faP rfl ty_fd_47_1 ty_sz_3 (S_ldP (j := 0) ok rfl rfl rfl hq0 (p_one (v := .I x1.2.at_) ty_ag_3 ty_sz_3 rfl) (S_call (Fs_spaces_ok (p0 := x1.2) (q0 := q0) h _ hq0 ok hF fun x10 _  ok hF => (Ai rfl (Sn (C_seq (CR (Mi rfl (Mp rfl (S_nilc (v := .ptr _ _) rfl rfl (S_faP rfl ty_fd_47_1 ty_sz_3 (S_ldP (j := 0) ok rfl rfl rfl hq0 (p_one (v := .I x1.2.at_) ty_ag_3 ty_sz_3 rfl) (S_bin rfl rfl (ev_eql ..) (Sn ?_)))))))))))) (.refl _))))))))
     refine C_if (b := (x10 == x1.2.at_)) rfl hF (fun hb11 hF => ?_) (fun hb11 hF => ?_)
     ·refine CR (Ai rfl (Sn (WP_ret ?_)))
      with_reducible repeat first | apply Exit.sr | apply Exit.br | apply Exit.jr
      refine C_ret (fn := Tryz.f28) rfl (.tmp (v := .I 23) rfl .nil) ?_
      exact ⟨_, _, (.refl _), .refl _, _, F_some hF, rfl, b1_3, zb1_3, ok, rfl⟩
     ·refine WP_skip (CR (Mp rfl (Mi rfl (S_nilc (v := .ptr _ _) rfl rfl (S_faP rfl ty_fd_47_1 ty_sz_3 (S_st (j := 0) (cs' := [.sl 1 (List.map c_u8 x1.2.b) 0, .I x10]) ok rfl rfl rfl hq0 rfl ty_sz_3 rfl rfl (fun ok => Sn (CR (Mp rfl (Mp rfl ?_))))))))))
      obtain ⟨hpe, ok⟩ := Hp_pull 2 ok rfl
      rw [hpe]; clear hpe
      obtain ⟨hpe, ok⟩ := Hp_pull 2 ok rfl
      rw [hpe]; clear hpe
      obtain ⟨hpe, ok⟩ := Hp_pull 2 ok rfl
      rw [hpe]; clear hpe
      refine S_call (Fs_upTo_ok (p0 := (⟨x1.2.b, x10⟩ : TS)) (p1 := (⟨(8 : Int), p1.At, x1.1.1, p1.Pairs, p1.Text, p1.Refs⟩ : TK)) (q0 := q0) (q1 := q1) (b1_3 := b1_3) h _ hq0 hq1 zb1_3 ok hF fun x12 u13 _ zu13 ok hF => (Ai rfl (Sn (WP_ret ?_)))) (.refl _)
      with_reducible repeat first | apply Exit.sr | apply Exit.br | apply Exit.jr
      refine C_ret (fn := Tryz.f28) rfl (.tmp (v := .I x12.1) rfl .nil) ?_
      exact ⟨_, _, (.refl _), .refl _, _, F_some hF, rfl, u13, zu13, ok, rfl⟩
theorem Fs_instr_ok {β : Type} {f0 : Int × TS × TK → Option β} {G : β → Prop} {R : D → Heap → Prop} {p0 : TS} {p1 : TK} {q0 : Nat} {q1 : Nat} {b1_3 : Nat} (h : Heap) (O : List (Nat × AObj)) (hq0 : q0 ≠ 0) (hq1 : q1 ≠ 0) (zb1_3 : b1_3 = 0 → p1.Pairs = []) (ok : OK h ((cSc q0 p0) :: (cTk q1 b1_3 p1) :: mo b1_3 cP p1.Pairs :: O)) (hF : OptP ((Fs_instr p0 p1).bind f0) G) (hk : ∀ r b1_3', Fs_instr p0 p1 = some r → (b1_3' = 0 → r.2.2.Pairs = []) → OK h ((cSc q0 r.2.1) :: (cTk q1 b1_3' r.2.2) :: mo b1_3' cP r.2.2.Pairs :: O) → OptP (f0 r) G → R (.I r.1) (Hp h ((cSc q0 r.2.1) :: (cTk q1 b1_3' r.2.2) :: mo b1_3' cP r.2.2.Pairs :: O))) : CallsA Tryz.prog 28 [.ptr q0 0, .ptr q1 0] (Hp h ((cSc q0 p0) :: (cTk q1 b1_3 p1) :: mo b1_3 cP p1.Pairs :: O)) R := by
 obtain ⟨r0, hr, hF⟩ := F_bind hF
 refine (Fs_instr_w (G := fun r => r = r0) p0 p1 q0 q1 b1_3 h O hq0 hq1 zb1_3 ok ⟨r0, hr, rfl⟩).mono ?_
 rintro _ _ ⟨r, rfl, rfl, b1_3', y0, ok', rfl⟩
 exact hk _ _ hr y0 ok' hF
theorem Fs_closing_w (p0 : TS) (p1 : TK) (q0 : Nat) (q1 : Nat) (b1_3 : Nat) {G : Int × TS × TK → Prop} (h : Heap) (O : List (Nat × AObj)) (hq0 : q0 ≠ 0) (hq1 : q1 ≠ 0) (zb1_3 : b1_3 = 0 → p1.Pairs = []) (ok : OK h ((cSc q0 p0) :: (cTk q1 b1_3 p1) :: mo b1_3 cP p1.Pairs :: O)) (hF : OptP (Fs_closing p0 p1) G) : CallsA Tryz.prog 29 [.ptr q0 0, .ptr q1 0] (Hp h ((cSc q0 p0) :: (cTk q1 b1_3 p1) :: mo b1_3 cP p1.Pairs :: O)) fun d h' => ∃ r, G r ∧ d = .I r.1 ∧ ∃ b1_3' : Nat, (b1_3' = 0 → r.2.2.Pairs = []) ∧ OK h ((cSc q0 r.2.1) :: (cTk q1 b1_3' r.2.2) :: mo b1_3' cP r.2.2.Pairs :: O) ∧ h' = Hp h ((cSc q0 r.2.1) :: (cTk q1 b1_3' r.2.2) :: mo b1_3' cP r.2.2.Pairs :: O) := by
 refine CallsA.ret (C_bodyO Tryz.func29 rfl en_29 Tryz.ntmps29 rfl ?_)
 rw [Fs_closing] at hF
 refine CR (Ai rfl (Sn (CR (Mp rfl (S_nilc (v := .ptr _ _) rfl rfl (S_faP rfl ty_fd_41_0 ty_sz_3 (S_st (j := 1) (cs' := [.I 3, .I p1.At, .str p1.Name, mslO 2 b1_3 p1.Pairs, .str p1.Text, .I p1.Refs]) ok rfl rfl rfl hq1 rfl ty_sz_3 rfl rfl (fun ok => Sn (CR (Mp rfl (S_nilc (v := .ptr _ _) rfl rfl (S_faP rfl ty_fd_47_1 ty_sz_3 (S_ldP (j := 0) ok rfl rfl rfl hq0 (p_one (v := .I p0.at_) ty_ag_3 ty_sz_3 rfl) (S_bin rfl rfl (ev_add ..) (S_nilc (v := .ptr _ _) rfl rfl (S_faP rfl ty_fd_47_1 ty_sz_3 (S_st (j := 0) (cs' := [.sl 1 (List.map c_u8 p0.b) 0, .I (IntKind.wrap .i64 (p0.at_ + (2 : Int)))]) ok rfl rfl rfl hq0 rfl ty_sz_3 rfl rfl (fun ok => Sn (CR (Mp rfl (S_call (Fs_name_ok (p0 := (⟨p0.b, (IntKind.wrap .i64 (p0.at_ + (2 : Int)))⟩ : TS)) (q0 := q0) h _ hq0 ok hF fun x1 _  ok hF => (S_m (v := .tup _) rfl (S_ext rfl rfl (S_ext rfl rfl (S_a (v := .str _) rfl (Ai rfl (Sn (C_seq (CR (Mi rfl (S_bin rfl rfl (ev_neq ..) (Sn ?_)))))))))))) (.refl _))))))))))))))))))))))
 refine C_if (b := (x1.1.2 != (0 : Int))) rfl hF (fun hb2 hF => ?_) (fun hb2 hF => ?_)
 ·refine CR (Mi rfl (Ai rfl (Sn (WP_ret ?_))))
  with_reducible repeat first | apply Exit.sr | apply Exit.br | apply Exit.jr
  refine C_ret (fn := Tryz.f29) rfl (.tmp (v := .I x1.1.2) rfl .nil) ?_
  exact ⟨_, _, (.refl _), .refl _, _, F_some hF, rfl, b1_3, zb1_3, ok, rfl⟩
 ·refine WP_skip (CR (Mp rfl (Ms rfl (S_nilc (v := .ptr _ _) rfl rfl (S_faP rfl ty_fd_41_2 ty_sz_9 (S_st (j := 1) (cs' := [.I 3, .I p1.At, .str x1.1.1, mslO 2 b1_3 p1.Pairs, .str p1.Text, .I p1.Refs]) ok rfl rfl rfl hq1 rfl ty_sz_9 rfl rfl (fun ok => Sn (CR (Mp rfl (Mp rfl (Mp rfl (S_nilc (v := .ptr _ _) rfl rfl (S_faP rfl ty_fd_47_1 ty_sz_3 (S_ldP (j := 0) ok rfl rfl rfl hq0 (p_one (v := .I x1.2.at_) ty_ag_3 ty_sz_3 rfl) (S_call (Fs_spaces_ok (p0 := x1.2) (q0 := q0) h _ hq0 ok hF fun x3 _  ok hF => (S_nilc (v := .ptr _ _) rfl rfl (S_faP rfl ty_fd_47_1 ty_sz_3 (S_st (j := 0) (cs' := [.sl 1 (List.map c_u8 x1.2.b) 0, .I x3]) ok rfl rfl rfl hq0 rfl ty_sz_3 rfl rfl (fun ok => Sn (CR (Mp rfl (S_call (Fs_sign_ok (p0 := (⟨x1.2.b, x3⟩ : TS)) (q0 := q0) h _ hq0 ok hF fun x4 _  ok hF => (Ai rfl (Sn (WP_ret ?_)))) (.refl _))))))))) (.refl _))))))))))))))))
  with_reducible repeat first | apply Exit.sr | apply Exit.br | apply Exit.jr
  refine C_ret (fn := Tryz.f29) rfl (.tmp (v := .I x4.1) rfl .nil) ?_
  exact ⟨_, _, (.refl _), .refl _, _, F_some hF, rfl, b1_3, zb1_3, ok, rfl⟩
theorem Fs_closing_ok {β : Type} {f0 : Int × TS × TK → Option β} {G : β → Prop} {R : D → Heap → Prop} {p0 : TS} {p1 : TK} {q0 : Nat} {q1 : Nat} {b1_3 : Nat} (h : Heap) (O : List (Nat × AObj)) (hq0 : q0 ≠ 0) (hq1 : q1 ≠ 0) (zb1_3 : b1_3 = 0 → p1.Pairs = []) (ok : OK h ((cSc q0 p0) :: (cTk q1 b1_3 p1) :: mo b1_3 cP p1.Pairs :: O)) (hF : OptP ((Fs_closing p0 p1).bind f0) G) (hk : ∀ r b1_3', Fs_closing p0 p1 = some r → (b1_3' = 0 → r.2.2.Pairs = []) → OK h ((cSc q0 r.2.1) :: (cTk q1 b1_3' r.2.2) :: mo b1_3' cP r.2.2.Pairs :: O) → OptP (f0 r) G → R (.I r.1) (Hp h ((cSc q0 r.2.1) :: (cTk q1 b1_3' r.2.2) :: mo b1_3' cP r.2.2.Pairs :: O))) : CallsA Tryz.prog 29 [.ptr q0 0, .ptr q1 0] (Hp h ((cSc q0 p0) :: (cTk q1 b1_3 p1) :: mo b1_3 cP p1.Pairs :: O)) R := by
 obtain ⟨r0, hr, hF⟩ := F_bind hF
 refine (Fs_closing_w (G := fun r => r = r0) p0 p1 q0 q1 b1_3 h O hq0 hq1 zb1_3 ok ⟨r0, hr, rfl⟩).mono ?_
 rintro _ _ ⟨r, rfl, rfl, b1_3', y0, ok', rfl⟩
 exact hk _ _ hr y0 ok' hF
theorem Fr_digit_w (p0 : Int) {G : Int → Prop} (h : Heap) (hF : OptP (Fr_digit p0) G) : CallsA Tryz.prog 114 [.int .u8 p0] h fun d h' => ∃ r, G r ∧ d = .I r ∧ h' = h := by
 refine CallsA.ret (C_body Tryz.func114 rfl en_114 Tryz.ntmps114 rfl (fun ok => ?_))
 rw [Fr_digit] at hF
 refine CR (Ai rfl (Sn (C_seq (WP_block (CR (Mi rfl (S_bin rfl rfl (ev_geq ..) (Mb rfl ?_))))))))
 refine S_two (b := (decide ((48 : Int) ≤ p0))) 3 9 (.bool ((decide ((48 : Int) ≤ p0)) && (decide (p0 ≤ (57 : Int))))) (fun hb1 => ?_) (fun hb1 => ?_) ?_
 ·refine Sx rfl rfl hb1 (Mi rfl (Sn (Sx rfl rfl hb1 (S_bin rfl rfl (ev_leq ..) (Sn (S_pickT (v := .bool _) rfl hb1 rfl (Sn (.hd (and_t hb1) ?_))))))))
  repeat first | with_reducible exact .refl _ | refine .add ?_ rfl | exact .refl _
 ·refine So rfl rfl hb1 (So rfl rfl hb1 (S_pickF (v := .bool _) rfl hb1 rfl (Sn (.hd (and_f hb1) ?_))))
  repeat first | with_reducible exact .refl _ | refine .add ?_ rfl | exact .refl _
 refine Ab rfl (Sn ?_)
 refine C_if (b := ((decide ((48 : Int) ≤ p0)) && (decide (p0 ≤ (57 : Int))))) rfl hF (fun hb2 hF => ?_) (fun hb2 hF => ?_)
 ·refine CR (Mi rfl (S_bin rfl rfl (ev_sub ..) (S_conv rfl (e_ci ty_ki_3 ty_un_5) (Ai rfl (Sn (WP_ret ?_))))))
  with_reducible repeat first | apply Exit.sr | apply Exit.br | apply Exit.jr
  refine C_ret (fn := Tryz.f114) rfl (.tmp (v := .I (IntKind.wrap .i64 (IntKind.wrap .u8 (p0 - (48 : Int))))) rfl .nil) ?_
  exact ⟨_, _, (.refl _), ok.wh, _, F_some hF, rfl, rfl⟩
 ·refine CR (Mi rfl (S_bin rfl rfl (ev_geq ..) (Mb rfl ?_)))
  refine S_two (b := (decide ((97 : Int) ≤ p0))) 3 19 (.bool ((decide ((97 : Int) ≤ p0)) && (decide (p0 ≤ (102 : Int))))) (fun hb3 => ?_) (fun hb3 => ?_) ?_
  ·refine Sx rfl rfl hb3 (Mi rfl (Sn (Sx rfl rfl hb3 (S_bin rfl rfl (ev_leq ..) (Sn (S_pickT (v := .bool _) rfl hb3 rfl (Sn (.hd (and_t hb3) ?_))))))))
   repeat first | with_reducible exact .refl _ | refine .add ?_ rfl | exact .refl _
  ·refine So rfl rfl hb3 (So rfl rfl hb3 (S_pickF (v := .bool _) rfl hb3 rfl (Sn (.hd (and_f hb3) ?_))))
   repeat first | with_reducible exact .refl _ | refine .add ?_ rfl | exact .refl _
  refine Ab rfl (Sn ?_)
  refine C_if (b := ((decide ((97 : Int) ≤ p0)) && (decide (p0 ≤ (102 : Int))))) rfl hF (fun hb4 hF => ?_) (fun hb4 hF => ?_)
  ·refine CR (Mi rfl (S_bin rfl rfl (ev_sub ..) (S_conv rfl (e_ci ty_ki_3 ty_un_5) (S_bin rfl rfl (ev_add ..) (Ai rfl (Sn (WP_ret ?_)))))))
   with_reducible repeat first | apply Exit.sr | apply Exit.br | apply Exit.jr
   refine C_ret (fn := Tryz.f114) rfl (.tmp (v := .I (IntKind.wrap .i64 ((IntKind.wrap .i64 (IntKind.wrap .u8 (p0 - (97 : Int)))) + (10 : Int)))) rfl .nil) ?_
   exact ⟨_, _, (.refl _), ok.wh, _, F_some hF, rfl, rfl⟩
  ·refine CR (Mi rfl (S_bin rfl rfl (ev_geq ..) (Mb rfl ?_)))
   refine S_two (b := (decide ((65 : Int) ≤ p0))) 3 30 (.bool ((decide ((65 : Int) ≤ p0)) && (decide (p0 ≤ (70 : Int))))) (fun hb5 => ?_) (fun hb5 => ?_) ?_
   ·refine Sx rfl rfl hb5 (Mi rfl (Sn (Sx rfl rfl hb5 (S_bin rfl rfl (ev_leq ..) (Sn (S_pickT (v := .bool _) rfl hb5 rfl (Sn (.hd (and_t hb5) ?_))))))))
    repeat first | with_reducible exact .refl _ | refine .add ?_ rfl | exact .refl _
   ·refine So rfl rfl hb5 (So rfl rfl hb5 (S_pickF (v := .bool _) rfl hb5 rfl (Sn (.hd (and_f hb5) ?_))))
    repeat first | with_reducible exact .refl _ | refine .add ?_ rfl | exact .refl _
   refine Ab rfl (Sn ?_)
   refine C_if (b := ((decide ((65 : Int) ≤ p0)) && (decide (p0 ≤ (70 : Int))))) rfl hF (fun hb6 hF => ?_) (fun hb6 hF => ?_)
   ·refine CR (Mi rfl (S_bin rfl rfl (ev_sub ..) (S_conv rfl (e_ci ty_ki_3 ty_un_5) (S_bin rfl rfl (ev_add ..) (Ai rfl (Sn (WP_ret ?_)))))))
    with_reducible repeat first | apply Exit.sr | apply Exit.br | apply Exit.jr
    refine C_ret (fn := Tryz.f114) rfl (.tmp (v := .I (IntKind.wrap .i64 ((IntKind.wrap .i64 (IntKind.wrap .u8 (p0 - (65 : Int)))) + (10 : Int)))) rfl .nil) ?_
    exact ⟨_, _, (.refl _), ok.wh, _, F_some hF, rfl, rfl⟩
   ·refine WP_skip (CR (Ai rfl (Sn (WP_ret ?_))))
    with_reducible repeat first | apply Exit.sr | apply Exit.br | apply Exit.jr
    refine C_ret (fn := Tryz.f114) rfl (.tmp (v := .I 99) rfl .nil) ?_
    exact ⟨_, _, (.refl _), ok.wh, _, F_some hF, rfl, rfl⟩
theorem Fr_digit_ok {β : Type} {f : Int → Option β} {G : β → Prop} {R : D → Heap → Prop} {p0 : Int} (h : Heap) (hF : OptP ((Fr_digit p0).bind f) G) (hk : ∀ r, Fr_digit p0 = some r → OptP (f r) G → R (.I r) h) : CallsA Tryz.prog 114 [.int .u8 p0] h R := by
 obtain ⟨r0, hr, hF⟩ := F_bind hF
 refine (Fr_digit_w (G := fun r => r = r0) p0 h ⟨r0, hr, rfl⟩).mono ?_
 rintro _ _ ⟨r, rfl, rfl, rfl⟩
 exact hk _ hr hF
theorem Fr_meant_w (p0 : LB) {G : Int × Int → Prop} (h : Heap) (hF : OptP (Fr_meant p0) G) : CallsA Tryz.prog 110 [.str p0] h fun d h' => ∃ r, G r ∧ d = .tup [.int .i32 r.1, .I r.2] ∧ h' = h := by
 refine CallsA.ret (C_body Tryz.func110 rfl en_110 Tryz.ntmps110 rfl (fun ok => ?_))
 rw [Fr_meant] at hF
 refine CR (Ai rfl (Ai rfl (Sn (C_seq (CR (Ms rfl (Sn (WP_block (CR (S_bin rfl rfl e_seql (Ab rfl (Sn ?_))))))))))))
 refine C_if (b := (p0 == ([108, 116] : LB))) rfl hF (fun hb1 hF => ?_) (fun hb1 hF => ?_)
 ·refine CR (Ai rfl (Ai rfl (Sn (WP_ret ?_))))
  with_reducible repeat first | apply Exit.sr | apply Exit.br | apply Exit.jr
  refine C_ret (fn := Tryz.f110) rfl (.tmp (v := .int .i32 (60 : Int)) rfl (.tmp (v := .I 0) rfl .nil)) ?_
  exact ⟨_, _, (.refl _), ok.wh, _, F_some hF, rfl, rfl⟩
 ·refine CR (S_bin rfl rfl e_seql (Ab rfl (Sn ?_)))
  refine C_if (b := (p0 == ([103, 116] : LB))) rfl hF (fun hb2 hF => ?_) (fun hb2 hF => ?_)
  ·refine CR (Ai rfl (Ai rfl (Sn (WP_ret ?_))))
   with_reducible repeat first | apply Exit.sr | apply Exit.br | apply Exit.jr
   refine C_ret (fn := Tryz.f110) rfl (.tmp (v := .int .i32 (62 : Int)) rfl (.tmp (v := .I 0) rfl .nil)) ?_
   exact ⟨_, _, (.refl _), ok.wh, _, F_some hF, rfl, rfl⟩
  ·refine CR (S_bin rfl rfl e_seql (Ab rfl (Sn ?_)))
   refine C_if (b := (p0 == ([97, 109, 112] : LB))) rfl hF (fun hb3 hF => ?_) (fun hb3 hF => ?_)
   ·refine CR (Ai rfl (Ai rfl (Sn (WP_ret ?_))))
    with_reducible repeat first | apply Exit.sr | apply Exit.br | apply Exit.jr
    refine C_ret (fn := Tryz.f110) rfl (.tmp (v := .int .i32 (38 : Int)) rfl (.tmp (v := .I 0) rfl .nil)) ?_
    exact ⟨_, _, (.refl _), ok.wh, _, F_some hF, rfl, rfl⟩
   ·refine CR (S_bin rfl rfl e_seql (Ab rfl (Sn ?_)))
    refine C_if (b := (p0 == ([97, 112, 111, 115] : LB))) rfl hF (fun hb4 hF => ?_) (fun hb4 hF => ?_)
    ·refine CR (Ai rfl (Ai rfl (Sn (WP_ret ?_))))
     with_reducible repeat first | apply Exit.sr | apply Exit.br | apply Exit.jr
     refine C_ret (fn := Tryz.f110) rfl (.tmp (v := .int .i32 (39 : Int)) rfl (.tmp (v := .I 0) rfl .nil)) ?_
     exact ⟨_, _, (.refl _), ok.wh, _, F_some hF, rfl, rfl⟩
    ·refine CR (S_bin rfl rfl e_seql (Ab rfl (Sn ?_)))
     refine C_if (b := (p0 == ([113, 117, 111, 116] : LB))) rfl hF (fun hb5 hF => ?_) (fun hb5 hF => ?_)
     ·refine CR (Ai rfl (Ai rfl (Sn (WP_ret ?_))))
      with_reducible repeat first | apply Exit.sr | apply Exit.br | apply Exit.jr
      refine C_ret (fn := Tryz.f110) rfl (.tmp (v := .int .i32 (34 : Int)) rfl (.tmp (v := .I 0) rfl .nil)) ?_
      exact ⟨_, _, (.refl _), ok.wh, _, F_some hF, rfl, rfl⟩
     ·refine WP_skip (CR (Ms rfl (S_call (Fx_ok _ hF fun x6 _ hF => (S_m (v := .tup _) rfl (S_ext rfl rfl (S_ext rfl rfl (S_a (v := .str _) rfl (Ab rfl (Sn (CR (Ai rfl (Sn ?_)))))))))) (.refl _))))
      refine C_join hF (fun (v : LB × Int) s' => match v with | (a9, a10) => OK h [] ∧ WS s' ⟨mkSl 67 [(4, .str a9), (5, .bool x6.2), (6, .I a10)], Hp h []⟩) (fun J11 hF => ?_) ?_
      ·refine CR (Ms rfl (S_call (Fx_ok _ hF fun x12 _ hF => (S_m (v := .tup _) rfl (S_ext rfl rfl (S_ext rfl rfl (S_a (v := .str _) rfl (Ab rfl (Sn (CR (Mb rfl (Sn ?_)))))))))) (.refl _)))
       refine C_if (b := x12.2) rfl hF (fun hb13 hF => ?_) (fun hb13 hF => ?_)
       ·refine C_reg (mdl []) (Ms rfl (S_a (v := .str _) rfl (Ai rfl (Sn ?_))))
        exact ⟨(x12.1, (16 : Int)), hF, ok, WS.mk' (.k (.k (.k .nil))) ok (.refl _)⟩
       ·refine WP_skip ?_
        exact ⟨(x6.1, (10 : Int)), hF, ok, WS.mk' (.k (.k (.k .nil))) ok (.refl _)⟩
      ·rintro ⟨a9, a10⟩ s' hF ⟨ok, hws⟩
       refine WP_ws hws ?_
       clear hws s'
       refine C_seq (CR (Mb rfl (S_un rfl (ev_not _) (Mb rfl ?_))))
       refine S_two (b := (!x6.2)) 3 41 (.bool ((!x6.2) || (a9 == nB))) (fun hb14 => ?_) (fun hb14 => ?_) ?_
       ·refine So rfl rfl hb14 (So rfl rfl hb14 (S_pickT (v := .bool _) rfl hb14 rfl (Sn (.hd (or_t hb14) ?_))))
        repeat first | with_reducible exact .refl _ | refine .add ?_ rfl | exact .refl _
       ·refine Sx rfl rfl hb14 (Ms rfl (Sn (Sx rfl rfl hb14 (S_bin rfl rfl e_seql (Sn (S_pickF (v := .bool _) rfl hb14 rfl (Sn (.hd (or_f hb14) ?_))))))))
        repeat first | with_reducible exact .refl _ | refine .add ?_ rfl | exact .refl _
       refine Sn ?_
       refine C_if (b := ((!x6.2) || (a9 == nB))) rfl hF (fun hb15 hF => ?_) (fun hb15 hF => ?_)
       ·refine CR (Ai rfl (Ai rfl (Sn (WP_ret ?_))))
        with_reducible repeat first | apply Exit.sr | apply Exit.br | apply Exit.jr
        refine C_ret (fn := Tryz.f110) rfl (.tmp (v := .int .i32 (0 : Int)) rfl (.tmp (v := .I 22) rfl .nil)) ?_
        exact ⟨_, _, (.refl _), ok.wh, _, F_some hF, rfl, rfl⟩
       ·refine WP_skip (CR (Ai rfl (Sn ?_)))
        refine C_join hF (fun (a22 : Int) s' => OK h [] ∧ WS s' ⟨mkSl 67 [(9, .I a22)], Hp h []⟩) (fun J23 hF => ?_) ?_
        ·refine CR (Ms rfl (S_byt0 rfl rfl ty_sl_22 ty_st_9 ty_ki_5 (S_lenL rfl ty_sl_22 (Mi rfl (Sn (WP_block ?_))))))
         refine C_loop (σ := Int × Int) hF (fun (v : Int × Int) s' => match v with | (a24, a25) => OK h [] ∧ WS s' ⟨mkSl 67 [(6, .I a10), (9, .I a24), (43, .sl 1 (List.map c_u8 a9) 0), (44, .I (a9.length : Int)), (45, .I a25)], Hp h []⟩) ?_ ?_
         ·exact ⟨ok, WS.mk' (.k (.k (.k (.k (.k .nil))))) ok (.refl _)⟩
         ·rintro G26 hG27 rec28 ⟨a24, a25⟩ s' ih29 hF ⟨ok, hws⟩
          refine WP_ws hws ?_
          clear hws s'
          rw [Fr_meant_l0] at hF
          refine CR (S_bin rfl rfl (ev_lss ..) (Sn (C_seq ?_)))
          refine C_if (b := (decide (a25 < (a9.length : Int)))) rfl hF (fun hb30 hF => ?_) (fun hb30 hF => ?_)
          ·refine WP_skip (C_seq (WP_block (CR (S_ix rfl rfl ty_sl_22 ty_sz_5 hF (fun x31 _ hF => S_ldQ rfl (p_one ty_ag_5 ty_sz_5 rfl) (Ai rfl (Sn (CR (Mi rfl (S_call (Fr_digit_ok _ hF fun x32 _ hF => (Ai rfl (Sn (C_seq (CR (Mi rfl (Mi rfl (S_bin rfl rfl (ev_geq ..) (Sn ?_))))))))) (.refl _)))))))))))
           refine C_if (b := (decide (a10 ≤ x32))) rfl hF (fun hb33 hF => ?_) (fun hb33 hF => ?_)
           ·refine CR (Ai rfl (Ai rfl (Sn (WP_ret ?_))))
            replace hF := hG27 _ (F_some hF)
            with_reducible repeat first | apply Exit.sr | apply Exit.br | apply Exit.jr
            refine C_ret (fn := Tryz.f110) rfl (.tmp (v := .int .i32 (0 : Int)) rfl (.tmp (v := .I 22) rfl .nil)) ?_
            exact ⟨_, _, (.refl _), ok.wh, _, F_some hF, rfl, rfl⟩
           ·refine WP_skip (C_reg (mdl []) (Mi rfl (Mi rfl (S_bin rfl rfl (ev_mul ..) (Mi rfl (S_bin rfl rfl (ev_add ..) (S_min rfl rfl (Ai rfl (Sn (C_reg (mdl []) (S_bin rfl rfl (ev_add ..) (Mi rfl (Sn (ih29 ((if (1114112 : Int) < (IntKind.wrap .i64 ((IntKind.wrap .i64 (a24 * a10)) + x32)) then (1114112 : Int) else (IntKind.wrap .i64 ((IntKind.wrap .i64 (a24 * a10)) + x32))), (IntKind.wrap .i64 (a25 + (1 : Int)))) _ hF ?_))))))))))))))
            exact ⟨ok, WS.mk' (.k (.k (.k (.k (.k .nil))))) ok (.refl _)⟩
          ·refine WP_exit ?_
           simp only [Exit.sel, Exit.blk, Exit.jmp, if_true, if_false, reduceIte, Nat.reduceEqDiff, Nat.succ_ne_zero, Nat.zero_ne_one, Nat.one_ne_zero]
           replace hF := hG27 _ (F_some hF)
           exact ⟨a24, hF, ok, WS.mk' (.k .nil) ok (.refl _)⟩
        ·rintro a22 s' hF ⟨ok, hws⟩
         refine WP_ws hws ?_
         clear hws s'
         refine C_seq (CR (Mi rfl (S_conv rfl (e_ci ty_ki_21 ty_un_3) (S_call (Fh_IsChar_ok _ hF fun x34 _ hF => (S_un rfl (ev_not _) (Sn ?_))) (.refl _)))))
         refine C_if (b := (!x34)) rfl hF (fun hb35 hF => ?_) (fun hb35 hF => ?_)
         ·refine CR (Ai rfl (Ai rfl (Sn (WP_ret ?_))))
          with_reducible repeat first | apply Exit.sr | apply Exit.br | apply Exit.jr
          refine C_ret (fn := Tryz.f110) rfl (.tmp (v := .int .i32 (0 : Int)) rfl (.tmp (v := .I 21) rfl .nil)) ?_
          exact ⟨_, _, (.refl _), ok.wh, _, F_some hF, rfl, rfl⟩
         ·refine WP_skip (CR (Mi rfl (S_conv rfl (e_ci ty_ki_21 ty_un_3) (Ai rfl (Ai rfl (Sn (WP_ret ?_)))))))
          with_reducible repeat first | apply Exit.sr | apply Exit.br | apply Exit.jr
          refine C_ret (fn := Tryz.f110) rfl (.tmp (v := .int .i32 (IntKind.wrap .i32 a22)) rfl (.tmp (v := .I 0) rfl .nil)) ?_
          exact ⟨_, _, (.refl _), ok.wh, _, F_some hF, rfl, rfl⟩
theorem Fr_meant_ok {β : Type} {f : Int × Int → Option β} {G : β → Prop} {R : D → Heap → Prop} {p0 : LB} (h : Heap) (hF : OptP ((Fr_meant p0).bind f) G) (hk : ∀ r, Fr_meant p0 = some r → OptP (f r) G → R (.tup [.int .i32 r.1, .I r.2]) h) : CallsA Tryz.prog 110 [.str p0] h R := by
 obtain ⟨r0, hr, hF⟩ := F_bind hF
 refine (Fr_meant_w (G := fun r => r = r0) p0 h ⟨r0, hr, rfl⟩).mono ?_
 rintro _ _ ⟨r, rfl, rfl, rfl⟩
 exact hk _ hr hF
theorem Fr_Expand_w (p0 : LB) (p1 : Int) {G : Int × Int × Int → Prop} (h : Heap) (hF : OptP (Fr_Expand p0 p1) G) : CallsA Tryz.prog 103 [.sl 1 (List.map c_u8 p0) 0, .I p1] h fun d h' => ∃ r, G r ∧ d = .tup [.int .i32 r.1, .I r.2.1, .I r.2.2] ∧ h' = h := by
 refine CallsA.ret (C_body Tryz.func103 rfl en_103 Tryz.ntmps103 rfl (fun ok => ?_))
 rw [Fr_Expand] at hF
 refine CR (Ai rfl (Ai rfl (Ai rfl (Sn (C_seq (CR (Mi rfl (S_bin rfl rfl (ev_lss ..) (Mb rfl ?_)))))))))
 refine S_two (b := (decide (p1 < (0 : Int)))) 5 17 (.bool ((decide (p1 < (0 : Int))) || (decide ((p0.length : Int) ≤ p1)))) (fun hb1 => ?_) (fun hb1 => ?_) ?_
 ·refine So rfl rfl hb1 (So rfl rfl hb1 (So rfl rfl hb1 (So rfl rfl hb1 (S_pickT (v := .bool _) rfl hb1 rfl (Sn (.hd (or_t hb1) ?_))))))
  repeat first | with_reducible exact .refl _ | refine .add ?_ rfl | exact .refl _
 ·refine Sx rfl rfl hb1 (Mi rfl (Sn (Sx rfl rfl hb1 (Ml rfl (Sn (Sx rfl rfl hb1 (S_lenL rfl ty_sl_22 (Sn (Sx rfl rfl hb1 (S_bin rfl rfl (ev_geq ..) (Sn (S_pickF (v := .bool _) rfl hb1 rfl (Sn (.hd (or_f hb1) ?_))))))))))))))
  repeat first | with_reducible exact .refl _ | refine .add ?_ rfl | exact .refl _
 refine Mb rfl ?_
 refine S_twoJ 6 24 hF (fun J3 hb2 hF => ?_) (fun J3 hb2 hF => ?_) (fun v4 hF => ?_)
 ·refine So rfl rfl hb2 (So rfl rfl hb2 (So rfl rfl hb2 (So rfl rfl hb2 (So rfl rfl hb2 (S_pickT (v := .bool _) rfl hb2 rfl (Sn ?_))))))
  refine ⟨_, hF, .hd (.refl _) ?_⟩
  repeat first | with_reducible exact .refl _ | refine .add ?_ rfl | exact .refl _
 ·refine Sx rfl rfl hb2 (Ml rfl (Sn (Sx rfl rfl hb2 (Mi rfl (Sn (Sx rfl rfl hb2 (S_ix rfl rfl ty_sl_22 ty_sz_5 hF (fun x5 _ hF => Sn (Sx rfl rfl hb2 (S_ldQ rfl (p_one ty_ag_5 ty_sz_5 rfl) (Sn (Sx rfl rfl hb2 (S_bin rfl rfl (ev_neq ..) (Sn (S_pickF (v := .bool _) rfl hb2 rfl (Sn ?_))))))))))))))))
  refine ⟨_, hF, .hd (.refl _) ?_⟩
  repeat first | with_reducible exact .refl _ | refine .add ?_ rfl | exact .refl _
 ·refine Sn ?_
  refine C_if (b := v4) rfl hF (fun hb6 hF => ?_) (fun hb6 hF => ?_)
  ·refine CR (Ai rfl (Ai rfl (Ai rfl (Sn (WP_ret ?_)))))
   with_reducible repeat first | apply Exit.sr | apply Exit.br | apply Exit.jr
   refine C_ret (fn := Tryz.f103) rfl (.tmp (v := .int .i32 (0 : Int)) rfl (.tmp (v := .I 0) rfl (.tmp (v := .I 1) rfl .nil))) ?_
   exact ⟨_, _, (.refl _), ok.wh, _, F_some hF, rfl, rfl⟩
  ·refine WP_skip (CR (Ml rfl (Mi rfl (S_slL rfl ty_sl_22 ty_sz_5 (bd_at rfl) bd_len hF (fun x7 _ hF => S_call (L_bIndexByte_ok _ hF fun x8 _ hF => (Ai rfl (Sn (C_seq (CR (Mi rfl (S_bin rfl rfl (ev_lss ..) (Sn ?_)))))))) (.refl _))))))
   refine C_if (b := (decide (x8 < (0 : Int)))) rfl hF (fun hb9 hF => ?_) (fun hb9 hF => ?_)
   ·refine CR (Ai rfl (Ai rfl (Ai rfl (Sn (WP_ret ?_)))))
    with_reducible repeat first | apply Exit.sr | apply Exit.br | apply Exit.jr
    refine C_ret (fn := Tryz.f103) rfl (.tmp (v := .int .i32 (0 : Int)) rfl (.tmp (v := .I 0) rfl (.tmp (v := .I 22) rfl .nil))) ?_
    exact ⟨_, _, (.refl _), ok.wh, _, F_some hF, rfl, rfl⟩
   ·refine WP_skip (CR (Ml rfl (Mi rfl (S_bin rfl rfl (ev_add ..) (Mi rfl (Mi rfl (S_bin rfl rfl (ev_add ..) (S_slL rfl ty_sl_22 ty_sz_5 (bd_at rfl) (bd_at rfl) hF (fun x10 _ hF => S_conv rfl (e_cbs ty_sl_22 ty_ki_5 ty_st_9) (S_call (Fr_meant_ok _ hF fun x11 _ hF => (S_m (v := .tup _) rfl (S_ext rfl rfl (S_ext rfl rfl (Ai rfl (Ai rfl (Sn (C_seq (CR (Mi rfl (S_bin rfl rfl (ev_neq ..) (Sn ?_)))))))))))) (.refl _)))))))))))
    refine C_if (b := (x11.2 != (0 : Int))) rfl hF (fun hb12 hF => ?_) (fun hb12 hF => ?_)
    ·refine CR (Mi rfl (Ai rfl (Ai rfl (Ai rfl (Sn (WP_ret ?_))))))
     with_reducible repeat first | apply Exit.sr | apply Exit.br | apply Exit.jr
     refine C_ret (fn := Tryz.f103) rfl (.tmp (v := .int .i32 (0 : Int)) rfl (.tmp (v := .I 0) rfl (.tmp (v := .I x11.2) rfl .nil))) ?_
     exact ⟨_, _, (.refl _), ok.wh, _, F_some hF, rfl, rfl⟩
    ·refine WP_skip (CR (Mi rfl (Mi rfl (Mi rfl (S_bin rfl rfl (ev_add ..) (S_bin rfl rfl (ev_add ..) (Ai rfl (Ai rfl (Ai rfl (Sn (WP_ret ?_)))))))))))
     with_reducible repeat first | apply Exit.sr | apply Exit.br | apply Exit.jr
     refine C_ret (fn := Tryz.f103) rfl (.tmp (v := .int .i32 x11.1) rfl (.tmp (v := .I (IntKind.wrap .i64 ((IntKind.wrap .i64 (p1 + x8)) + (1 : Int)))) rfl (.tmp (v := .I 0) rfl .nil))) ?_
     exact ⟨_, _, (.refl _), ok.wh, _, F_some hF, rfl, rfl⟩
theorem Fr_Expand_ok {β : Type} {f : Int × Int × Int → Option β} {G : β → Prop} {R : D → Heap → Prop} {p0 : LB} {p1 : Int} (h : Heap) (hF : OptP ((Fr_Expand p0 p1).bind f) G) (hk : ∀ r, Fr_Expand p0 p1 = some r → OptP (f r) G → R (.tup [.int .i32 r.1, .I r.2.1, .I r.2.2]) h) : CallsA Tryz.prog 103 [.sl 1 (List.map c_u8 p0) 0, .I p1] h R := by
 obtain ⟨r0, hr, hF⟩ := F_bind hF
 refine (Fr_Expand_w (G := fun r => r = r0) p0 p1 h ⟨r0, hr, rfl⟩).mono ?_
 rintro _ _ ⟨r, rfl, rfl, rfl⟩
 exact hk _ hr hF
theorem Fr_read_w (p0 : LB) (p1 : Bool) {G : LB × Int × Int → Prop} (h : Heap) (hF : OptP (Fr_read p0 p1) G) : CallsA Tryz.prog 80 [.sl 1 (List.map c_u8 p0) 0, .bool p1] h fun d h' => ∃ r, G r ∧ d = .tup [.str r.1, .I r.2.1, .I r.2.2] ∧ h' = h := by
 refine CallsA.ret (C_body Tryz.func80 rfl en_80 Tryz.ntmps80 rfl (fun ok => ?_))
 rw [Fr_read] at hF
 refine CR (S_a (v := .str nB) rfl (Ai rfl (Ai rfl (Sn (CR (S_a (v := .snil) rfl (S_ghost 7 1 ok rfl rfl ?_)))))))
 intro r1 hr1 ok
 refine Sn ?_
 refine C_join hF (fun (a52 : LB) s' => ∃ g53 : Nat, g53 ≠ 0 ∧ OK h [(g53, .room)] ∧ WS s' ⟨mkSl 79 [(7, .sl 1 (List.map c_u8 a52) g53)], Hp h [(g53, .room)]⟩) (fun J54 hF => ?_) ?_
 ·refine CR (Ai rfl (Sn (WP_block ?_)))
  refine C_loop (σ := LB × Int) hF (fun (v : LB × Int) s' => match v with | (a55, a57) => ∃ g56 : Nat, g56 ≠ 0 ∧ OK h [(g56, .room)] ∧ WS s' ⟨mkSl 79 [(0, .sl 1 (List.map c_u8 p0) 0), (1, .bool p1), (7, .sl 1 (List.map c_u8 a55) g56), (8, .I a57)], Hp h [(g56, .room)]⟩) ?_ ?_
  ·exact ⟨r1, hr1, ok, WS.mk' (.k (.k (.k (.k .nil)))) ok (.refl _)⟩
  ·rintro G58 hG59 rec60 ⟨a55, a57⟩ s' ih61 hF ⟨g56, hg56, ok, hws⟩
   refine WP_ws hws ?_
   clear hws s'
   rw [Fr_read_l0] at hF
   refine C_seq (CR (Mi rfl (Ml rfl (S_lenL rfl ty_sl_22 (S_bin rfl rfl (ev_lss ..) (Sn ?_))))))
   refine C_if (b := (decide (a57 < (p0.length : Int)))) rfl hF (fun hb62 hF => ?_) (fun hb62 hF => ?_)
   ·refine WP_skip (WP_block (CR (Ml rfl (Mi rfl (S_call (Fh_Next_ok _ hF fun x63 _ hF => (S_m (v := .tup _) rfl (S_ext rfl rfl (S_ext rfl rfl (S_ext rfl rfl (Ai rfl (Ai rfl (Ai rfl (Sn ?_))))))))) (.refl _))))))
    refine C_join hF (fun (v : Int × Int) s' => match v with | (a85, a86) => OK h [(g56, .room)] ∧ WS s' ⟨mkSl 79 [(0, .sl 1 (List.map c_u8 p0) 0), (1, .bool p1), (7, .sl 1 (List.map c_u8 a55) g56), (9, .int .i32 a85), (10, .I a86)], Hp h [(g56, .room)]⟩) (fun J87 hF => ?_) ?_
    ·refine WP_block (CR (Mi rfl (S_bin rfl rfl (ev_neq ..) (Ab rfl (Sn ?_)))))
     refine C_if (b := (x63.2.2 != (0 : Int))) rfl hF (fun hb88 hF => ?_) (fun hb88 hF => ?_)
     ·refine CR (Mi rfl (Mi rfl (S_a (v := .str nB) rfl (Ai rfl (Ai rfl (Sn (WP_ret ?_)))))))
      replace hF := hG59 _ (F_some hF)
      with_reducible repeat first | apply Exit.sr | apply Exit.br | apply Exit.jr
      refine C_ret (fn := Tryz.f80) rfl (.tmp (v := .str nB) rfl (.tmp (v := .I a57) rfl (.tmp (v := .I x63.2.2) rfl .nil))) ?_
      exact ⟨_, _, (.refl _), ok.wh, _, F_some hF, rfl, rfl⟩
     ·refine C_seq (C_reg (mdl [(38, 5), (39, 5)]) (Mi rfl (S_bin rfl rfl (ev_eql ..) (Mb rfl ?_))))
      refine S_twoJ 11 42 hF (fun J90 hb89 hF => ?_) (fun J90 hb89 hF => ?_) (fun v91 hF => ?_)
      ·refine So rfl rfl hb89 (So rfl rfl hb89 (So rfl rfl hb89 (S_off2 rfl rfl (S_offD (S_off2 rfl rfl (S_offD (S_off2 rfl rfl (S_offD (S_off2 rfl rfl (S_offD (S_off2 rfl rfl (S_offD (S_off2 rfl rfl (S_offD (So rfl rfl hb89 (S_pickT (v := .bool _) rfl hb89 rfl (Sn ?_)))))))))))))))))
       refine ⟨_, hF, .hd (.refl _) ?_⟩
       repeat first | with_reducible exact .refl _ | refine .add ?_ rfl | exact .refl _
      ·refine Sx rfl rfl hb89 (Mb rfl (Sn (Sx rfl rfl hb89 (S_un rfl (ev_not _) (Sn (Sx rfl rfl hb89 (Mb rfl (Sn ?_))))))))
       refine S_twoJ 7 41 hF (fun J93 hb92 hF => ?_) (fun J93 hb92 hF => ?_) (fun v94 hF => ?_)
       ·refine Sx rfl rfl hb92 (Ml rfl (Sn (Sx rfl rfl hb92 (Mi rfl (Sn (Sx rfl rfl hb92 (S_slL rfl ty_sl_22 ty_sz_5 (bd_at rfl) bd_len hF (fun x95 _ hF => Sn (Sx rfl rfl hb92 ?_)))))))))
        refine S_lit5 (cs := [.int .u8 93, .int .u8 93, .int .u8 62]) ok rfl ty_el_22 rfl (by kernel_rfl) ?_
        intro i96 hi96 ok
        refine Sn (Sx rfl rfl hb92 ?_)
        refine S_cvt (v := .sl 1 (List.map c_u8 ([93, 93, 62] : LB)) 0) (by kernel_rfl) 0 ok rfl rfl hi96 rfl ty_sl_22 ty_ki_5 rfl rfl (fun ok => ?_)
        refine Sn (Sx rfl rfl hb92 (S_call (Fy_HasPrefix_ok _ hF fun x98 _ hF => (Sn (Sx rfl rfl hb89 (S_pickT (v := .bool _) rfl hb92 rfl (Sn (Sn ?_)))))) (.refl _)))
        refine ⟨_, hF, .hd (.refl _) ?_⟩
        repeat first | with_reducible exact .refl _ | refine .add ?_ rfl | exact .refl _
       ·refine So rfl rfl hb92 (So rfl rfl hb92 (So rfl rfl hb92 (So rfl rfl hb92 (So rfl rfl hb92 (So rfl rfl hb92 (Sx rfl rfl hb89 (S_pickF (v := .bool _) rfl hb92 rfl (Sn (Sn ?_)))))))))
        refine ⟨_, hF, .hd (.refl _) ?_⟩
        repeat first | with_reducible exact .refl _ | refine .add ?_ rfl | exact .refl _
       ·refine S_pickF (v := .bool _) rfl hb89 rfl (Sn ?_)
        refine ⟨_, hF, .hd (.refl _) ?_⟩
        repeat first | with_reducible exact .refl _ | refine .add ?_ rfl | exact .refl _
      ·refine Ab rfl (Sn ?_)
       refine C_if (b := v91) rfl hF (fun hb99 hF => ?_) (fun hb99 hF => ?_)
       ·refine CR (Mi rfl (S_a (v := .str nB) rfl (Ai rfl (Ai rfl (Sn (WP_ret ?_))))))
        replace hF := hG59 _ (F_some hF)
        with_reducible repeat first | apply Exit.sr | apply Exit.br | apply Exit.jr
        refine C_ret (fn := Tryz.f80) rfl (.tmp (v := .str nB) rfl (.tmp (v := .I a57) rfl (.tmp (v := .I 23) rfl .nil))) ?_
        exact ⟨_, _, (.refl _), ok.wh, _, F_some hF, rfl, rfl⟩
       ·refine CR (Mi rfl (S_bin rfl rfl (ev_eql ..) (Ab rfl (Sn ?_))))
        refine C_if (b := (x63.1 == (38 : Int))) rfl hF (fun hb100 hF => ?_) (fun hb100 hF => ?_)
        ·refine CR (Ml rfl (Mi rfl (S_call (Fr_Expand_ok _ hF fun x101 _ hF => (S_m (v := .tup _) rfl (S_ext rfl rfl (S_ext rfl rfl (S_ext rfl rfl (Ai rfl (Ai rfl (Ai rfl (Sn (CR (Mi rfl (S_bin rfl rfl (ev_neq ..) (Sn ?_))))))))))))) (.refl _))))
         refine C_if (b := (x101.2.2 != (0 : Int))) rfl hF (fun hb102 hF => ?_) (fun hb102 hF => ?_)
         ·refine CR (Mi rfl (Mi rfl (S_a (v := .str nB) rfl (Ai rfl (Ai rfl (Sn (WP_ret ?_)))))))
          replace hF := hG59 _ (F_some hF)
          with_reducible repeat first | apply Exit.sr | apply Exit.br | apply Exit.jr
          refine C_ret (fn := Tryz.f80) rfl (.tmp (v := .str nB) rfl (.tmp (v := .I a57) rfl (.tmp (v := .I x101.2.2) rfl .nil))) ?_
          exact ⟨_, _, (.refl _), ok.wh, _, F_some hF, rfl, rfl⟩
         ·refine WP_skip ?_
          exact ⟨(x101.1, x101.2.1), hF, ok, WS.mk' (.k (.k (.k (.k (.k .nil))))) ok (.refl _)⟩
        ·refine CR (Mb rfl (Mb rfl ?_))
         refine S_two (b := p1) 11 71 (.bool (p1 && (((x63.1 == (9 : Int)) || (x63.1 == (10 : Int))) || (x63.1 == (13 : Int))))) (fun hb103 => ?_) (fun hb103 => ?_) ?_
         ·refine Sx rfl rfl hb103 (Mi rfl (Sn (Sx rfl rfl hb103 (S_bin rfl rfl (ev_eql ..) (Sn (Sx rfl rfl hb103 (Mb rfl (Sn ?_))))))))
          refine S_two (b := (x63.1 == (9 : Int))) 3 66 (.bool ((x63.1 == (9 : Int)) || (x63.1 == (10 : Int)))) (fun hb106 => ?_) (fun hb106 => ?_) ?_
          ·refine So rfl rfl hb106 (So rfl rfl hb106 (Sx rfl rfl hb103 (S_pickT (v := .bool _) rfl hb106 rfl (Sn (Sn (.hd (or_t hb106) ?_))))))
           repeat first | with_reducible exact .refl _ | refine .add ?_ rfl | exact .refl _
          ·refine Sx rfl rfl hb106 (Mi rfl (Sn (Sx rfl rfl hb106 (S_bin rfl rfl (ev_eql ..) (Sn (Sx rfl rfl hb103 (S_pickF (v := .bool _) rfl hb106 rfl (Sn (Sn (.hd (or_f hb106) ?_))))))))))
           repeat first | with_reducible exact .refl _ | refine .add ?_ rfl | exact .refl _
          refine Sx rfl rfl hb103 (Mb rfl (Sn ?_))
          refine S_two (b := ((x63.1 == (9 : Int)) || (x63.1 == (10 : Int)))) 3 70 (.bool (((x63.1 == (9 : Int)) || (x63.1 == (10 : Int))) || (x63.1 == (13 : Int)))) (fun hb107 => ?_) (fun hb107 => ?_) ?_
          ·refine So rfl rfl hb107 (So rfl rfl hb107 (Sx rfl rfl hb103 (S_pickT (v := .bool _) rfl hb107 rfl (Sn (Sn (.hd (or_t hb107) ?_))))))
           repeat first | with_reducible exact .refl _ | refine .add ?_ rfl | exact .refl _
          ·refine Sx rfl rfl hb107 (Mi rfl (Sn (Sx rfl rfl hb107 (S_bin rfl rfl (ev_eql ..) (Sn (Sx rfl rfl hb103 (S_pickF (v := .bool _) rfl hb107 rfl (Sn (Sn (.hd (or_f hb107) ?_))))))))))
           repeat first | with_reducible exact .refl _ | refine .add ?_ rfl | exact .refl _
          refine S_pickT (v := .bool _) rfl hb103 rfl (Sn (.hd (and_t hb103) ?_))
          repeat first | with_reducible exact .refl _ | refine .add ?_ rfl | exact .refl _
         ·refine So rfl rfl hb103 (So rfl rfl hb103 (So rfl rfl hb103 (S_off2 rfl rfl (S_offD (S_off2 rfl rfl (S_offD (So rfl rfl hb103 (So rfl rfl hb103 (S_off2 rfl rfl (S_offD (S_off2 rfl rfl (S_offD (So rfl rfl hb103 (S_pickF (v := .bool _) rfl hb103 rfl (Sn (.hd (and_f hb103) ?_))))))))))))))))
          repeat first | with_reducible exact .refl _ | refine .add ?_ rfl | exact .refl _
         refine Ab rfl (Sn ?_)
         refine C_if (b := (p1 && (((x63.1 == (9 : Int)) || (x63.1 == (10 : Int))) || (x63.1 == (13 : Int))))) rfl hF (fun hb108 hF => ?_) (fun hb108 hF => ?_)
         ·refine C_reg (mdl []) (Ai rfl (Sn ?_))
          exact ⟨((32 : Int), x63.2.1), hF, ok, WS.mk' (.k (.k (.k (.k (.k .nil))))) ok (.refl _)⟩
         ·refine WP_skip ?_
          exact ⟨(x63.1, x63.2.1), hF, ok, WS.mk' (.k (.k (.k (.k (.k .nil))))) ok (.refl _)⟩
    ·rintro ⟨a85, a86⟩ s' hF ⟨ok, hws⟩
     refine WP_ws hws ?_
     clear hws s'
     refine C_seq (C_reg (mdl [(75, 2)]) (Ml rfl (Mi rfl (S_conv rfl (e_cr ty_ki_9 ty_fa_9 ty_st_9 ty_un_21) (S_appS (j := 0) ok rfl rfl rfl rfl hg56 ty_el_22 ty_ni_9 hF ?_)))))
     intro r109 hr109 ok hF
     refine S_a (v := .sl _ _ _) rfl (Sn (C_reg (mdl []) (Mi rfl (Ai rfl (Sn (ih61 ((a55 ++ (Utf8.encode a85).data.toList), a86) _ hF ?_))))))
     exact ⟨r109, hr109, ok, WS.mk' (.k (.k (.k (.k .nil)))) ok (.refl _)⟩
   ·refine WP_exit ?_
    simp only [Exit.sel, Exit.blk, Exit.jmp, if_true, if_false, reduceIte, Nat.reduceEqDiff, Nat.succ_ne_zero, Nat.zero_ne_one, Nat.one_ne_zero]
    replace hF := hG59 _ (F_some hF)
    exact ⟨a55, hF, g56, hg56, ok, WS.mk' (.k .nil) ok (.refl _)⟩
 ·rintro a52 s' hF ⟨g53, hg53, ok, hws⟩
  refine WP_ws hws ?_
  clear hws s'
  refine CR (Ml rfl (S_one 77 (v := .sl 1 (List.map c_u8 a52) 0) (.zero _ _ _) (S_conv rfl (e_cbs ty_sl_22 ty_ki_5 ty_st_9) (S_a (v := .str _) rfl (Ai rfl (Ai rfl (Sn (WP_ret ?_))))))))
  with_reducible repeat first | apply Exit.sr | apply Exit.br | apply Exit.jr
  refine C_ret (fn := Tryz.f80) rfl (.tmp (v := .str a52) rfl (.tmp (v := .I 0) rfl (.tmp (v := .I 0) rfl .nil))) ?_
  exact ⟨_, _, (.refl _), ok.wh, _, F_some hF, rfl, rfl⟩
theorem Fr_read_ok {β : Type} {f : LB × Int × Int → Option β} {G : β → Prop} {R : D → Heap → Prop} {p0 : LB} {p1 : Bool} (h : Heap) (hF : OptP ((Fr_read p0 p1).bind f) G) (hk : ∀ r, Fr_read p0 p1 = some r → OptP (f r) G → R (.tup [.str r.1, .I r.2.1, .I r.2.2]) h) : CallsA Tryz.prog 80 [.sl 1 (List.map c_u8 p0) 0, .bool p1] h R := by
 obtain ⟨r0, hr, hF⟩ := F_bind hF
 refine (Fr_read_w (G := fun r => r = r0) p0 p1 h ⟨r0, hr, rfl⟩).mono ?_
 rintro _ _ ⟨r, rfl, rfl, rfl⟩
 exact hk _ hr hF
theorem Fr_ReadValue_w (p0 : LB) {G : LB × Int × Int → Prop} (h : Heap) (hF : OptP (Fr_ReadValue p0) G) : CallsA Tryz.prog 53 [.sl 1 (List.map c_u8 p0) 0] h fun d h' => ∃ r, G r ∧ d = .tup [.str r.1, .I r.2.1, .I r.2.2] ∧ h' = h := by
 refine CallsA.ret (C_body Tryz.func53 rfl en_53 Tryz.ntmps53 rfl (fun ok => ?_))
 rw [Fr_ReadValue] at hF
 refine CR (S_a (v := .str nB) rfl (Ai rfl (Ai rfl (Sn (CR (Ml rfl (S_call (Fr_read_ok _ hF fun x1 _ hF => (S_ext rfl rfl (S_ext rfl rfl (S_ext rfl rfl (S_a (v := .str _) rfl (Ai rfl (Ai rfl (Sn (WP_ret ?_))))))))) (.refl _))))))))
 with_reducible repeat first | apply Exit.sr | apply Exit.br | apply Exit.jr
 refine C_ret (fn := Tryz.f53) rfl (.tmp (v := .str x1.1) rfl (.tmp (v := .I x1.2.1) rfl (.tmp (v := .I x1.2.2) rfl .nil))) ?_
 exact ⟨_, _, (.refl _), ok.wh, _, F_some hF, rfl, rfl⟩
theorem Fr_ReadValue_ok {β : Type} {f : LB × Int × Int → Option β} {G : β → Prop} {R : D → Heap → Prop} {p0 : LB} (h : Heap) (hF : OptP ((Fr_ReadValue p0).bind f) G) (hk : ∀ r, Fr_ReadValue p0 = some r → OptP (f r) G → R (.tup [.str r.1, .I r.2.1, .I r.2.2]) h) : CallsA Tryz.prog 53 [.sl 1 (List.map c_u8 p0) 0] h R := by
 obtain ⟨r0, hr, hF⟩ := F_bind hF
 refine (Fr_ReadValue_w (G := fun r => r = r0) p0 h ⟨r0, hr, rfl⟩).mono ?_
 rintro _ _ ⟨r, rfl, rfl, rfl⟩
 exact hk _ hr hF
theorem Fs_tag_w (p0 : TS) (p1 : TK) (q0 : Nat) (q1 : Nat) (b1_3 : Nat) {G : Int × TS × TK → Prop} (h : Heap) (O : List (Nat × AObj)) (hq0 : q0 ≠ 0) (hq1 : q1 ≠ 0) (zb1_3 : b1_3 = 0 → p1.Pairs = []) (ok : OK h ((cSc q0 p0) :: (cTk q1 b1_3 p1) :: mo b1_3 cP p1.Pairs :: O)) (hF : OptP (Fs_tag p0 p1) G) : CallsA Tryz.prog 30 [.ptr q0 0, .ptr q1 0] (Hp h ((cSc q0 p0) :: (cTk q1 b1_3 p1) :: mo b1_3 cP p1.Pairs :: O)) fun d h' => ∃ r, G r ∧ d = .I r.1 ∧ ∃ b1_3' : Nat, (b1_3' = 0 → r.2.2.Pairs = []) ∧ OK h ((cSc q0 r.2.1) :: (cTk q1 b1_3' r.2.2) :: mo b1_3' cP r.2.2.Pairs :: O) ∧ h' = Hp h ((cSc q0 r.2.1) :: (cTk q1 b1_3' r.2.2) :: mo b1_3' cP r.2.2.Pairs :: O) := by
 refine CallsA.ret (C_bodyO Tryz.func30 rfl en_30 Tryz.ntmps30 rfl ?_)
 rw [Fs_tag] at hF
 refine CR (Ai rfl (Sn (WP_scope (JW_step (CR (Ai rfl (Sn (C_seq (C_reg (mdl [(6, 1)]) (S_all1 ok rfl ty_zc_44 ?_))))))))))
 intro i1 hi1 ok
 refine Sn (CR (S_a (v := .snil) rfl (S_one 7 (v := .sl 1 (List.map c_u8 nB) 0) (.nil _) (Sn (CR (Mp rfl (S_nilc (v := .ptr _ _) rfl rfl (S_faP rfl ty_fd_47_1 ty_sz_3 (S_ldP (j := 1) ok rfl rfl rfl hq0 (p_one (v := .I p0.at_) ty_ag_3 ty_sz_3 rfl) (S_bin rfl rfl (ev_add ..) (S_nilc (v := .ptr _ _) rfl rfl (S_faP rfl ty_fd_47_1 ty_sz_3 (S_st (j := 1) (cs' := [.sl 1 (List.map c_u8 p0.b) 0, .I (IntKind.wrap .i64 (p0.at_ + (1 : Int)))]) ok rfl rfl rfl hq0 rfl ty_sz_3 rfl rfl (fun ok => Sn (CR (Mp rfl ?_))))))))))))))))
 obtain ⟨hpe, ok⟩ := Hp_pull 1 ok rfl
 rw [hpe]; clear hpe
 refine S_call (Fs_name_ok (p0 := (⟨p0.b, (IntKind.wrap .i64 (p0.at_ + (1 : Int)))⟩ : TS)) (q0 := q0) h _ hq0 ok hF fun x2 _  ok hF => (S_m (v := .tup _) rfl (S_ext rfl rfl (S_ext rfl rfl (S_a (v := .str _) rfl (Ai rfl (Sn (C_seq (CR (Mi rfl (S_bin rfl rfl (ev_neq ..) (Sn ?_)))))))))))) (.refl _)
 refine C_if (b := (x2.1.2 != (0 : Int))) rfl hF (fun hb3 hF => ?_) (fun hb3 hF => ?_)
 ·refine CR (Mi rfl (Ai rfl (Sn (WP_ret ?_))))
  with_reducible repeat first | apply Exit.sr | apply Exit.br | apply Exit.jr
  have hwo : WO ((cSc q0 x2.2) :: (i1, .cells [.str nB, .str nB]) :: (cTk q1 b1_3 p1) :: mo b1_3 cP p1.Pairs :: O) ((cSc q0 x2.2) :: (cTk q1 b1_3 p1) :: mo b1_3 cP p1.Pairs :: O) := (.keep (.drop (.keep (.keep (.refl O)))))
  refine C_ret (fn := Tryz.f30) rfl (.tmp (v := .I x2.1.2) rfl .nil) ?_
  exact ⟨_, _, (.refl _), (hwo.spec ok).2.2, _, F_some hF, rfl, b1_3, zb1_3, (hwo.spec ok).1, rfl⟩
 ·refine WP_skip (CR (Mp rfl (Mp rfl (Ms rfl (S_nilc (v := .ptr _ _) rfl rfl (S_faP rfl ty_fd_41_2 ty_sz_9 (S_st (j := 2) (cs' := [.I p1.Kind, .I p1.At, .str x2.1.1, mslO 2 b1_3 p1.Pairs, .str p1.Text, .I p1.Refs]) ok rfl rfl rfl hq1 rfl ty_sz_9 rfl rfl (fun ok => S_nilc (v := .ptr _ _) rfl rfl (S_faP rfl ty_fd_41_0 ty_sz_3 (S_st (j := 2) (cs' := [.I 2, .I p1.At, .str x2.1.1, mslO 2 b1_3 p1.Pairs, .str p1.Text, .I p1.Refs]) ok rfl rfl rfl hq1 rfl ty_sz_3 rfl rfl (fun ok => Sn (C_seq (WP_label ?_)))))))))))))
  refine C_gloop (σ := LB × Int × Int × Int × LB × (List TP) × LB × Int × LB × LB) hF (fun (v : LB × Int × Int × Int × LB × (List TP) × LB × Int × LB × LB) s' => match v with | (a4, a5, a6, a7, a8, a10, a11, a12, a13, a14) => ∃ g9 : Nat, (g9 = 0 → a10 = []) ∧ OK h ((q0, .cells [.sl 1 (List.map c_u8 a4) 0, .I a5]) :: (i1, .cells [.str a13, .str a14]) :: (q1, .cells [.I a6, .I a7, .str a8, mslO 2 g9 a10, .str a11, .I a12]) :: mo g9 cP a10 :: O) ∧ WS s' ⟨mkSl 118 [(0, .ptr q0 0), (1, .ptr q1 0), (6, .ptr i1 0)], Hp h ((q0, .cells [.sl 1 (List.map c_u8 a4) 0, .I a5]) :: (i1, .cells [.str a13, .str a14]) :: (q1, .cells [.I a6, .I a7, .str a8, mslO 2 g9 a10, .str a11, .I a12]) :: mo g9 cP a10 :: O)⟩) ?_ ?_
  ·exact ⟨b1_3, zb1_3, ok, WS.mk' (.k (.k (.k .nil))) ok (.refl _)⟩
  ·rintro G15 hG16 rec17 ⟨a4, a5, a6, a7, a8, a10, a11, a12, a13, a14⟩ s' ih18 hF ⟨g9, zg9, ok, hws⟩
   refine WP_ws hws ?_
   clear hws s'
   rw [Fs_tag_l0] at hF
   refine CR (Mp rfl (S_nilc (v := .ptr _ _) rfl rfl (S_faP rfl ty_fd_47_1 ty_sz_3 (S_ldP (j := 0) ok rfl rfl rfl hq0 (p_one (v := .I a5) ty_ag_3 ty_sz_3 rfl) (Ai rfl (Sn (CR (Mp rfl (Mp rfl (Mi rfl (S_call (Fs_spaces_ok (p0 := (⟨a4, a5⟩ : TS)) (q0 := q0) h _ hq0 ok hF fun x19 _  ok hF => (S_nilc (v := .ptr _ _) rfl rfl (S_faP rfl ty_fd_47_1 ty_sz_3 (S_st (j := 0) (cs' := [.sl 1 (List.map c_u8 a4) 0, .I x19]) ok rfl rfl rfl hq0 rfl ty_sz_3 rfl rfl (fun ok => Sn (C_seq (CR (Mp rfl (S_call (Fs_here_ok (p0 := (⟨a4, x19⟩ : TS)) (q0 := q0) h _ hq0 ok hF fun x20 _  ok hF => (Sn ?_)) (.refl _)))))))))) (.refl _))))))))))))
   refine C_if (b := x20) rfl hF (fun hb21 hF => ?_) (fun hb21 hF => ?_)
   ·refine CR (Mp rfl (S_nilc (v := .ptr _ _) rfl rfl (S_faP rfl ty_fd_41_0 ty_sz_3 (S_st (j := 2) (cs' := [.I 4, .I a7, .str a8, mslO 2 g9 a10, .str a11, .I a12]) ok rfl rfl rfl hq1 rfl ty_sz_3 rfl rfl (fun ok => Sn (CR (Mp rfl (S_call (Fs_sign_ok (p0 := (⟨a4, x19⟩ : TS)) (q0 := q0) h _ hq0 ok hF fun x22 _  ok hF => (Ai rfl (Sn (WP_ret ?_)))) (.refl _)))))))))
    replace hF := hG16 _ (F_some hF)
    with_reducible repeat first | apply Exit.sr | apply Exit.br | apply Exit.jr
    have hwo : WO ((cSc q0 x22.2) :: (i1, .cells [.str a13, .str a14]) :: (q1, .cells [.I 4, .I a7, .str a8, mslO 2 g9 a10, .str a11, .I a12]) :: mo g9 cP a10 :: O) ((cSc q0 x22.2) :: (q1, .cells [.I 4, .I a7, .str a8, mslO 2 g9 a10, .str a11, .I a12]) :: mo g9 cP a10 :: O) := (.keep (.drop (.keep (.keep (.refl O)))))
    refine C_ret (fn := Tryz.f30) rfl (.tmp (v := .I x22.1) rfl .nil) ?_
    exact ⟨_, _, (.refl _), (hwo.spec ok).2.2, _, F_some hF, rfl, g9, zg9, (hwo.spec ok).1, rfl⟩
   ·refine WP_skip (C_seq (CR (Mp rfl (S_call (Fs_here_ok (p0 := (⟨a4, x19⟩ : TS)) (q0 := q0) h _ hq0 ok hF fun x23 _  ok hF => (Sn ?_)) (.refl _)))))
    refine C_if (b := x23) rfl hF (fun hb24 hF => ?_) (fun hb24 hF => ?_)
    ·refine CR (Mp rfl (S_call (Fs_sign_ok (p0 := (⟨a4, x19⟩ : TS)) (q0 := q0) h _ hq0 ok hF fun x25 _  ok hF => (Ai rfl (Sn (WP_ret ?_)))) (.refl _)))
     replace hF := hG16 _ (F_some hF)
     with_reducible repeat first | apply Exit.sr | apply Exit.br | apply Exit.jr
     have hwo : WO ((cSc q0 x25.2) :: (i1, .cells [.str a13, .str a14]) :: (q1, .cells [.I a6, .I a7, .str a8, mslO 2 g9 a10, .str a11, .I a12]) :: mo g9 cP a10 :: O) ((cSc q0 x25.2) :: (q1, .cells [.I a6, .I a7, .str a8, mslO 2 g9 a10, .str a11, .I a12]) :: mo g9 cP a10 :: O) := (.keep (.drop (.keep (.keep (.refl O)))))
     refine C_ret (fn := Tryz.f30) rfl (.tmp (v := .I x25.1) rfl .nil) ?_
     exact ⟨_, _, (.refl _), (hwo.spec ok).2.2, _, F_some hF, rfl, g9, zg9, (hwo.spec ok).1, rfl⟩
    ·refine WP_skip (C_seq (CR (Mp rfl (S_nilc (v := .ptr _ _) rfl rfl (S_faP rfl ty_fd_47_1 ty_sz_3 (S_ldP (j := 0) ok rfl rfl rfl hq0 (p_one (v := .I x19) ty_ag_3 ty_sz_3 rfl) (Mi rfl (S_bin rfl rfl (ev_eql ..) (Sn ?_)))))))))
     refine C_if (b := (x19 == a5)) rfl hF (fun hb26 hF => ?_) (fun hb26 hF => ?_)
     ·refine CR (Ai rfl (Sn (WP_ret ?_)))
      replace hF := hG16 _ (F_some hF)
      with_reducible repeat first | apply Exit.sr | apply Exit.br | apply Exit.jr
      have hwo : WO ((q0, .cells [.sl 1 (List.map c_u8 a4) 0, .I x19]) :: (i1, .cells [.str a13, .str a14]) :: (q1, .cells [.I a6, .I a7, .str a8, mslO 2 g9 a10, .str a11, .I a12]) :: mo g9 cP a10 :: O) ((q0, .cells [.sl 1 (List.map c_u8 a4) 0, .I x19]) :: (q1, .cells [.I a6, .I a7, .str a8, mslO 2 g9 a10, .str a11, .I a12]) :: mo g9 cP a10 :: O) := (.keep (.drop (.keep (.keep (.refl O)))))
      refine C_ret (fn := Tryz.f30) rfl (.tmp (v := .I 23) rfl .nil) ?_
      exact ⟨_, _, (.refl _), (hwo.spec ok).2.2, _, F_some hF, rfl, g9, zg9, (hwo.spec ok).1, rfl⟩
     ·refine WP_skip (C_seq (CR (Mp rfl (S_call (Fs_name_ok (p0 := (⟨a4, x19⟩ : TS)) (q0 := q0) h _ hq0 ok hF fun x27 _  ok hF => (S_m (v := .tup _) rfl (S_ext rfl rfl (S_ext rfl rfl (S_faP rfl ty_fd_44_0 ty_sz_9 (S_st (j := 1) (cs' := [.str x27.1.1, .str a14]) ok rfl rfl rfl hi1 rfl ty_sz_9 rfl rfl (fun ok => Ai rfl (Sn (CR (Mi rfl (S_bin rfl rfl (ev_neq ..) (Sn ?_)))))))))))) (.refl _)))))
      refine C_if (b := (x27.1.2 != (0 : Int))) rfl hF (fun hb28 hF => ?_) (fun hb28 hF => ?_)
      ·refine CR (Mi rfl (Ai rfl (Sn (WP_ret ?_))))
       replace hF := hG16 _ (F_some hF)
       with_reducible repeat first | apply Exit.sr | apply Exit.br | apply Exit.jr
       have hwo : WO ((cSc q0 x27.2) :: (i1, .cells [.str x27.1.1, .str a14]) :: (q1, .cells [.I a6, .I a7, .str a8, mslO 2 g9 a10, .str a11, .I a12]) :: mo g9 cP a10 :: O) ((cSc q0 x27.2) :: (q1, .cells [.I a6, .I a7, .str a8, mslO 2 g9 a10, .str a11, .I a12]) :: mo g9 cP a10 :: O) := (.keep (.drop (.keep (.keep (.refl O)))))
       refine C_ret (fn := Tryz.f30) rfl (.tmp (v := .I x27.1.2) rfl .nil) ?_
       exact ⟨_, _, (.refl _), (hwo.spec ok).2.2, _, F_some hF, rfl, g9, zg9, (hwo.spec ok).1, rfl⟩
      ·refine WP_skip (C_seq (CR (Mp rfl (S_call (Fs_equals_ok (p0 := x27.2) (q0 := q0) h _ hq0 ok hF fun x29 _  ok hF => (Ai rfl (Sn (CR (Mi rfl (S_bin rfl rfl (ev_neq ..) (Sn ?_))))))) (.refl _)))))
       refine C_if (b := (x29.1 != (0 : Int))) rfl hF (fun hb30 hF => ?_) (fun hb30 hF => ?_)
       ·refine CR (Mi rfl (Ai rfl (Sn (WP_ret ?_))))
        replace hF := hG16 _ (F_some hF)
        with_reducible repeat first | apply Exit.sr | apply Exit.br | apply Exit.jr
        have hwo : WO ((cSc q0 x29.2) :: (i1, .cells [.str x27.1.1, .str a14]) :: (q1, .cells [.I a6, .I a7, .str a8, mslO 2 g9 a10, .str a11, .I a12]) :: mo g9 cP a10 :: O) ((cSc q0 x29.2) :: (q1, .cells [.I a6, .I a7, .str a8, mslO 2 g9 a10, .str a11, .I a12]) :: mo g9 cP a10 :: O) := (.keep (.drop (.keep (.keep (.refl O)))))
        refine C_ret (fn := Tryz.f30) rfl (.tmp (v := .I x29.1) rfl .nil) ?_
        exact ⟨_, _, (.refl _), (hwo.spec ok).2.2, _, F_some hF, rfl, g9, zg9, (hwo.spec ok).1, rfl⟩
       ·refine WP_skip (C_seq (CR (Mp rfl (S_call (Fs_quoted_ok (p0 := x29.2) (q0 := q0) h _ hq0 ok hF fun x31 _  ok hF => (S_m (v := .tup _) rfl (S_ext rfl rfl (S_ext rfl rfl (S_a (v := .sl _ _ _) rfl (Ai rfl (Sn (CR (Mi rfl (S_bin rfl rfl (ev_neq ..) (Sn ?_))))))))))) (.refl _)))))
        refine C_if (b := (x31.1.2 != (0 : Int))) rfl hF (fun hb32 hF => ?_) (fun hb32 hF => ?_)
        ·refine CR (Mi rfl (Ai rfl (Sn (WP_ret ?_))))
         replace hF := hG16 _ (F_some hF)
         with_reducible repeat first | apply Exit.sr | apply Exit.br | apply Exit.jr
         have hwo : WO ((cSc q0 x31.2) :: (i1, .cells [.str x27.1.1, .str a14]) :: (q1, .cells [.I a6, .I a7, .str a8, mslO 2 g9 a10, .str a11, .I a12]) :: mo g9 cP a10 :: O) ((cSc q0 x31.2) :: (q1, .cells [.I a6, .I a7, .str a8, mslO 2 g9 a10, .str a11, .I a12]) :: mo g9 cP a10 :: O) := (.keep (.drop (.keep (.keep (.refl O)))))
         refine C_ret (fn := Tryz.f30) rfl (.tmp (v := .I x31.1.2) rfl .nil) ?_
         exact ⟨_, _, (.refl _), (hwo.spec ok).2.2, _, F_some hF, rfl, g9, zg9, (hwo.spec ok).1, rfl⟩
        ·refine WP_skip (C_seq (CR (Ml rfl (S_call (Fr_ReadValue_ok _ hF fun x33 _ hF => (S_m (v := .tup _) rfl (S_ext rfl rfl (S_ext rfl rfl (S_ext rfl rfl (S_faP rfl ty_fd_44_1 ty_sz_9 (S_st (j := 1) (cs' := [.str x27.1.1, .str x33.1]) ok rfl rfl rfl hi1 rfl ty_sz_9 rfl rfl (fun ok => Ai rfl (Sn (CR (Mi rfl (S_bin rfl rfl (ev_neq ..) (Sn ?_))))))))))))) (.refl _)))))
         refine C_if (b := (x33.2.2 != (0 : Int))) rfl hF (fun hb34 hF => ?_) (fun hb34 hF => ?_)
         ·refine CR (Mi rfl (Ai rfl (Sn (WP_ret ?_))))
          replace hF := hG16 _ (F_some hF)
          with_reducible repeat first | apply Exit.sr | apply Exit.br | apply Exit.jr
          have hwo : WO ((cSc q0 x31.2) :: (i1, .cells [.str x27.1.1, .str x33.1]) :: (q1, .cells [.I a6, .I a7, .str a8, mslO 2 g9 a10, .str a11, .I a12]) :: mo g9 cP a10 :: O) ((cSc q0 x31.2) :: (q1, .cells [.I a6, .I a7, .str a8, mslO 2 g9 a10, .str a11, .I a12]) :: mo g9 cP a10 :: O) := (.keep (.drop (.keep (.keep (.refl O)))))
          refine C_ret (fn := Tryz.f30) rfl (.tmp (v := .I x33.2.2) rfl .nil) ?_
          exact ⟨_, _, (.refl _), (hwo.spec ok).2.2, _, F_some hF, rfl, g9, zg9, (hwo.spec ok).1, rfl⟩
         ·refine WP_skip ?_
          refine C_join hF (fun (_ : Unit) s' => OK h ((cSc q0 x31.2) :: (i1, .cells [.str x27.1.1, .str x33.1]) :: (q1, .cells [.I a6, .I a7, .str a8, mslO 2 g9 a10, .str a11, .I a12]) :: mo g9 cP a10 :: O) ∧ WS s' ⟨mkSl 118 [(0, .ptr q0 0), (1, .ptr q1 0), (6, .ptr i1 0)], Hp h ((cSc q0 x31.2) :: (i1, .cells [.str x27.1.1, .str x33.1]) :: (q1, .cells [.I a6, .I a7, .str a8, mslO 2 g9 a10, .str a11, .I a12]) :: mo g9 cP a10 :: O)⟩) (fun J40 hF => ?_) ?_
          ·refine CR (Mp rfl (S_nilc (v := .ptr _ _) rfl rfl (S_faP rfl ty_fd_41_3 ty_sz_39 (S_ldP (j := 2) ok rfl rfl rfl hq1 (p_one (v := mslO 2 g9 a10) ty_ag_39 ty_sz_39 rfl) (S_lenO zg9 rfl ty_sl_39 (Mi rfl (Sn (WP_block ?_))))))))
           refine C_loop (σ := Int) hF (fun (a41 : Int) s' => OK h ((cSc q0 x31.2) :: (i1, .cells [.str x27.1.1, .str x33.1]) :: (q1, .cells [.I a6, .I a7, .str a8, mslO 2 g9 a10, .str a11, .I a12]) :: mo g9 cP a10 :: O) ∧ WS s' ⟨mkSl 118 [(0, .ptr q0 0), (1, .ptr q1 0), (6, .ptr i1 0), (96, mslO 2 g9 a10), (97, .I (a10.length : Int)), (98, .I a41)], Hp h ((cSc q0 x31.2) :: (i1, .cells [.str x27.1.1, .str x33.1]) :: (q1, .cells [.I a6, .I a7, .str a8, mslO 2 g9 a10, .str a11, .I a12]) :: mo g9 cP a10 :: O)⟩) ?_ ?_
           ·exact ⟨ok, WS.mk' (.k (.k (.k (.k (.k (.k .nil)))))) ok (.refl _)⟩
           ·rintro G42 hG43 rec44 a41 s' ih45 hF ⟨ok, hws⟩
            refine WP_ws hws ?_
            clear hws s'
            rw [Fs_tag_l1] at hF
            refine CR (S_bin rfl rfl (ev_lss ..) (Sn (C_seq ?_)))
            refine C_if (b := (decide (a41 < (a10.length : Int)))) rfl hF (fun hb46 hF => ?_) (fun hb46 hF => ?_)
            ·refine WP_skip (C_seq (WP_block (C_seq (C_reg (mdl [(11, 1)]) (S_ixO zg9 rfl rfl ty_sl_39 ty_sz_44 hF (fun x47 hx47 hF => S_ldO (q := 2) (j := 3) (f0 := 0) ok rfl zg9 rfl rfl (fun _ => rfl) hx47 rfl rfl (p_agg (vs := cP x47) ty_ag_44 ty_sz_44 rfl rfl) (S_all1 ok rfl ty_zc_44 ?_)))))))
             intro i48 hi48 ok
             refine S_st (j := 0) (cs' := [.str x47.Name, .str x47.Value]) ok rfl rfl rfl hi48 rfl ty_sz_44 rfl rfl (fun ok => Sn (CR (S_faP rfl ty_fd_44_0 ty_sz_9 (S_ldP (j := 0) ok rfl rfl rfl hi48 (p_one (v := .str x47.Name) ty_ag_9 ty_sz_9 rfl) (S_faP rfl ty_fd_44_0 ty_sz_9 (S_ldP (j := 2) ok rfl rfl rfl hi1 (p_one (v := .str x27.1.1) ty_ag_9 ty_sz_9 rfl) (S_bin rfl rfl e_seql (Sn ?_))))))))
             refine C_if (b := (x47.Name == x27.1.1)) rfl hF (fun hb49 hF => ?_) (fun hb49 hF => ?_)
             ·refine CR (Ai rfl (Sn (WP_ret ?_)))
              replace hF := hG43 _ (F_some hF)
              replace hF := hG16 _ (F_some hF)
              with_reducible repeat first | apply Exit.sr | apply Exit.br | apply Exit.jr
              have hwo : WO ((i48, .cells [.str x47.Name, .str x47.Value]) :: (cSc q0 x31.2) :: (i1, .cells [.str x27.1.1, .str x33.1]) :: (q1, .cells [.I a6, .I a7, .str a8, mslO 2 g9 a10, .str a11, .I a12]) :: mo g9 cP a10 :: O) ((cSc q0 x31.2) :: (q1, .cells [.I a6, .I a7, .str a8, mslO 2 g9 a10, .str a11, .I a12]) :: mo g9 cP a10 :: O) := (.drop (.keep (.drop (.keep (.keep (.refl O))))))
              refine C_ret (fn := Tryz.f30) rfl (.tmp (v := .I 27) rfl .nil) ?_
              exact ⟨_, _, (.refl _), (hwo.spec ok).2.2, _, F_some hF, rfl, g9, zg9, (hwo.spec ok).1, rfl⟩
             ·refine WP_skip (C_reg (mdl []) (S_bin rfl rfl (ev_add ..) (Mi rfl (Sn (ih45 (IntKind.wrap .i64 (a41 + (1 : Int))) _ hF ?_)))))
              have hwo : WO ((i48, .cells [.str x47.Name, .str x47.Value]) :: (cSc q0 x31.2) :: (i1, .cells [.str x27.1.1, .str x33.1]) :: (q1, .cells [.I a6, .I a7, .str a8, mslO 2 g9 a10, .str a11, .I a12]) :: mo g9 cP a10 :: O) ((cSc q0 x31.2) :: (i1, .cells [.str x27.1.1, .str x33.1]) :: (q1, .cells [.I a6, .I a7, .str a8, mslO 2 g9 a10, .str a11, .I a12]) :: mo g9 cP a10 :: O) := (.drop (.keep (.keep (.keep (.keep (.refl O))))))
              exact ⟨(hwo.spec ok).1, WS.mk' (.k (.k (.k (.k (.k (.k .nil)))))) ok hwo⟩
            ·refine WP_exit ?_
             simp only [Exit.sel, Exit.blk, Exit.jmp, if_true, if_false, reduceIte, Nat.reduceEqDiff, Nat.succ_ne_zero, Nat.zero_ne_one, Nat.one_ne_zero]
             replace hF := hG43 _ (F_some hF)
             exact ⟨(), hF, ok, WS.mk' (.k (.k (.k .nil))) ok (.refl _)⟩
          ·rintro ⟨⟩ s' hF ⟨ok, hws⟩
           refine WP_ws hws ?_
           clear hws s'
           refine C_seq ?_
           refine C_drw (mdl [(115, 1)]) (by kernel_rfl) (by kernel_rfl) ?_
           refine Mp rfl (Mp rfl (S_nilc (v := .ptr _ _) rfl rfl (S_faP rfl ty_fd_41_3 ty_sz_39 (S_ldP (j := 2) ok rfl rfl rfl hq1 (p_one (v := mslO 2 g9 a10) ty_ag_39 ty_sz_39 rfl) (S_ldP (j := 1) ok rfl rfl rfl hi1 (p_agg (vs := cP (⟨x27.1.1, x33.1⟩ : TP)) ty_ag_44 ty_sz_44 rfl rfl) ?_)))))
           refine S_lit0 (cs := [.str (⟨x27.1.1, x33.1⟩ : TP).Name, .str (⟨x27.1.1, x33.1⟩ : TP).Value]) (es := (List.map cP [(⟨x27.1.1, x33.1⟩ : TP)])) rfl ty_el_39 rfl (by kernel_rfl) (by kernel_rfl) ?_
           refine S_appO (j := 3) (M := [(⟨x27.1.1, x33.1⟩ : TP)]) ok zg9 rfl rfl src_sl (fun _ => rfl) rfl ty_el_39 ty_ni_39 hF ?_
           intro u50 zu50 ok hF
           obtain ⟨a51, ha51, hF⟩ := F_let hF
           rw [← ha51] at ok zu50
           rw [← ha51]
           refine S_nilc (v := .ptr _ _) rfl rfl (S_faP rfl ty_fd_41_3 ty_sz_39 (S_stB (j := 2) (cs' := [.I a6, .I a7, .str a8, mslO 2 u50 a51, .str a11, .I a12]) ok rfl rfl rfl hq1 ty_sz_39 rfl rfl (fun ok => Sn (WP_goto ?_))))
           repeat (first | with_reducible refine Exit.sel_goto ?_ | with_reducible refine Exit.blk_goto ?_)
           refine jmp_goto rfl (ih18 (x31.2.b, x31.2.at_, a6, a7, a8, a51, a11, a12, x27.1.1, x33.1) _ hF ?_)
           exact ⟨u50, zu50, ok, WS.mk' (.k (.k (.k .nil))) ok (.refl _)⟩
theorem Fs_tag_ok {β : Type} {f0 : Int × TS × TK → Option β} {G : β → Prop} {R : D → Heap → Prop} {p0 : TS} {p1 : TK} {q0 : Nat} {q1 : Nat} {b1_3 : Nat} (h : Heap) (O : List (Nat × AObj)) (hq0 : q0 ≠ 0) (hq1 : q1 ≠ 0) (zb1_3 : b1_3 = 0 → p1.Pairs = []) (ok : OK h ((cSc q0 p0) :: (cTk q1 b1_3 p1) :: mo b1_3 cP p1.Pairs :: O)) (hF : OptP ((Fs_tag p0 p1).bind f0) G) (hk : ∀ r b1_3', Fs_tag p0 p1 = some r → (b1_3' = 0 → r.2.2.Pairs = []) → OK h ((cSc q0 r.2.1) :: (cTk q1 b1_3' r.2.2) :: mo b1_3' cP r.2.2.Pairs :: O) → OptP (f0 r) G → R (.I r.1) (Hp h ((cSc q0 r.2.1) :: (cTk q1 b1_3' r.2.2) :: mo b1_3' cP r.2.2.Pairs :: O))) : CallsA Tryz.prog 30 [.ptr q0 0, .ptr q1 0] (Hp h ((cSc q0 p0) :: (cTk q1 b1_3 p1) :: mo b1_3 cP p1.Pairs :: O)) R := by
 obtain ⟨r0, hr, hF⟩ := F_bind hF
 refine (Fs_tag_w (G := fun r => r = r0) p0 p1 q0 q1 b1_3 h O hq0 hq1 zb1_3 ok ⟨r0, hr, rfl⟩).mono ?_
 rintro _ _ ⟨r, rfl, rfl, b1_3', y0, ok', rfl⟩
 exact hk _ _ hr y0 ok' hF
theorem Fr_ReadText_w (p0 : LB) {G : LB × Int × Int → Prop} (h : Heap) (hF : OptP (Fr_ReadText p0) G) : CallsA Tryz.prog 55 [.sl 1 (List.map c_u8 p0) 0] h fun d h' => ∃ r, G r ∧ d = .tup [.str r.1, .I r.2.1, .I r.2.2] ∧ h' = h := by
 refine CallsA.ret (C_body Tryz.func55 rfl en_55 Tryz.ntmps55 rfl (fun ok => ?_))
 rw [Fr_ReadText] at hF
 refine CR (S_a (v := .str nB) rfl (Ai rfl (Ai rfl (Sn (CR (Ml rfl (S_call (Fr_read_ok _ hF fun x1 _ hF => (S_ext rfl rfl (S_ext rfl rfl (S_ext rfl rfl (S_a (v := .str _) rfl (Ai rfl (Ai rfl (Sn (WP_ret ?_))))))))) (.refl _))))))))
 with_reducible repeat first | apply Exit.sr | apply Exit.br | apply Exit.jr
 refine C_ret (fn := Tryz.f55) rfl (.tmp (v := .str x1.1) rfl (.tmp (v := .I x1.2.1) rfl (.tmp (v := .I x1.2.2) rfl .nil))) ?_
 exact ⟨_, _, (.refl _), ok.wh, _, F_some hF, rfl, rfl⟩
theorem Fr_ReadText_ok {β : Type} {f : LB × Int × Int → Option β} {G : β → Prop} {R : D → Heap → Prop} {p0 : LB} (h : Heap) (hF : OptP ((Fr_ReadText p0).bind f) G) (hk : ∀ r, Fr_ReadText p0 = some r → OptP (f r) G → R (.tup [.str r.1, .I r.2.1, .I r.2.2]) h) : CallsA Tryz.prog 55 [.sl 1 (List.map c_u8 p0) 0] h R := by
 obtain ⟨r0, hr, hF⟩ := F_bind hF
 refine (Fr_ReadText_w (G := fun r => r = r0) p0 h ⟨r0, hr, rfl⟩).mono ?_
 rintro _ _ ⟨r, rfl, rfl, rfl⟩
 exact hk _ hr hF
theorem Fs_text_w (p0 : TS) (p1 : TK) (q0 : Nat) (q1 : Nat) (b1_3 : Nat) {G : Int × TS × TK → Prop} (h : Heap) (O : List (Nat × AObj)) (hq0 : q0 ≠ 0) (hq1 : q1 ≠ 0) (zb1_3 : b1_3 = 0 → p1.Pairs = []) (ok : OK h ((cSc q0 p0) :: (cTk q1 b1_3 p1) :: mo b1_3 cP p1.Pairs :: O)) (hF : OptP (Fs_text p0 p1) G) : CallsA Tryz.prog 31 [.ptr q0 0, .ptr q1 0] (Hp h ((cSc q0 p0) :: (cTk q1 b1_3 p1) :: mo b1_3 cP p1.Pairs :: O)) fun d h' => ∃ r, G r ∧ d = .I r.1 ∧ ∃ b1_3' : Nat, (b1_3' = 0 → r.2.2.Pairs = []) ∧ OK h ((cSc q0 r.2.1) :: (cTk q1 b1_3' r.2.2) :: mo b1_3' cP r.2.2.Pairs :: O) ∧ h' = Hp h ((cSc q0 r.2.1) :: (cTk q1 b1_3' r.2.2) :: mo b1_3' cP r.2.2.Pairs :: O) := by
 refine CallsA.ret (C_bodyO Tryz.func31 rfl en_31 Tryz.ntmps31 rfl ?_)
 rw [Fs_text] at hF
 refine CR (Ai rfl (Sn (CR (Mp rfl (S_nilc (v := .ptr _ _) rfl rfl (S_faP rfl ty_fd_41_0 ty_sz_3 (S_st (j := 1) (cs' := [.I 5, .I p1.At, .str p1.Name, mslO 2 b1_3 p1.Pairs, .str p1.Text, .I p1.Refs]) ok rfl rfl rfl hq1 rfl ty_sz_3 rfl rfl (fun ok => Sn (C_seq ?_)))))))))
 refine C_drw (mdl []) (by kernel_rfl) (by kernel_rfl) ?_
 refine Mp rfl (S_nilc (v := .ptr _ _) rfl rfl (S_faP rfl ty_fd_47_0 ty_sz_22 (S_ldP (j := 0) ok rfl rfl rfl hq0 (p_one (v := .sl 1 (List.map c_u8 p0.b) 0) ty_ag_22 ty_sz_22 rfl) (Mp rfl (S_nilc (v := .ptr _ _) rfl rfl (S_faP rfl ty_fd_47_1 ty_sz_3 (S_ldP (j := 0) ok rfl rfl rfl hq0 (p_one (v := .I p0.at_) ty_ag_3 ty_sz_3 rfl) (S_slL rfl ty_sl_22 ty_sz_5 (bd_at rfl) bd_len hF (fun x1 _ hF => S_a (v := .sl _ _ _) rfl (Sn ?_))))))))))
 refine C_join hF (fun (a5 : LB) s' => OK h ((cSc q0 p0) :: (q1, .cells [.I 5, .I p1.At, .str p1.Name, mslO 2 b1_3 p1.Pairs, .str p1.Text, .I p1.Refs]) :: mo b1_3 cP p1.Pairs :: O) ∧ WS s' ⟨mkSl 56 [(0, .ptr q0 0), (1, .ptr q1 0), (5, .sl 1 (List.map c_u8 a5) 0)], Hp h ((cSc q0 p0) :: (q1, .cells [.I 5, .I p1.At, .str p1.Name, mslO 2 b1_3 p1.Pairs, .str p1.Text, .I p1.Refs]) :: mo b1_3 cP p1.Pairs :: O)⟩) (fun J6 hF => ?_) ?_
 ·refine CR (Ml rfl (S_call (L_bIndexByte_ok _ hF fun x7 _ hF => (Ai rfl (Sn (CR (Mi rfl (S_bin rfl rfl (ev_geq ..) (Sn ?_))))))) (.refl _)))
  refine C_if (b := (decide ((0 : Int) ≤ x7))) rfl hF (fun hb8 hF => ?_) (fun hb8 hF => ?_)
  ·refine C_reg (mdl []) (Ml rfl (Mi rfl (S_slL rfl ty_sl_22 ty_sz_5 bd_no (bd_at rfl) hF (fun x9 _ hF => S_a (v := .sl _ _ _) rfl (Sn ?_)))))
   exact ⟨x9, hF, ok, WS.mk' (.k (.k (.k .nil))) ok (.refl _)⟩
  ·refine WP_skip ?_
   exact ⟨x1, hF, ok, WS.mk' (.k (.k (.k .nil))) ok (.refl _)⟩
 ·rintro a5 s' hF ⟨ok, hws⟩
  refine WP_ws hws ?_
  clear hws s'
  refine CR (Ml rfl (S_call (Fr_ReadText_ok _ hF fun x10 _ hF => (S_m (v := .tup _) rfl (S_ext rfl rfl (S_ext rfl rfl (S_ext rfl rfl (S_a (v := .str _) rfl (Ai rfl (Ai rfl (Sn (C_seq (C_reg (mdl [(39, 5), (40, 5)]) (Mp rfl (Mp rfl (Ms rfl (Ml rfl ?_))))))))))))))) (.refl _)))
  refine S_lit5 (cs := [.int .u8 38]) ok rfl ty_el_22 rfl (by kernel_rfl) ?_
  intro i11 hi11 ok
  refine S_cvt (v := .sl 1 (List.map c_u8 ([38] : LB)) 0) (by kernel_rfl) 0 ok rfl rfl hi11 rfl ty_sl_22 ty_ki_5 rfl rfl (fun ok => ?_)
  refine S_call (L_bCount_ok _ hF fun x13 _ hF => (S_nilc (v := .ptr _ _) rfl rfl (S_faP rfl ty_fd_41_4 ty_sz_9 (S_st (j := 2) (cs' := [.I 5, .I p1.At, .str p1.Name, mslO 2 b1_3 p1.Pairs, .str x10.1, .I p1.Refs]) ok rfl rfl rfl hq1 rfl ty_sz_9 rfl rfl (fun ok => S_nilc (v := .ptr _ _) rfl rfl (S_faP rfl ty_fd_41_5 ty_sz_3 (S_st (j := 2) (cs' := [.I 5, .I p1.At, .str p1.Name, mslO 2 b1_3 p1.Pairs, .str x10.1, .I x13]) ok rfl rfl rfl hq1 rfl ty_sz_3 rfl rfl (fun ok => Sn (CR (Mp rfl (S_nilc (v := .ptr _ _) rfl rfl (S_faP rfl ty_fd_47_1 ty_sz_3 (S_ldP (j := 1) ok rfl rfl rfl hq0 (p_one (v := .I p0.at_) ty_ag_3 ty_sz_3 rfl) (Ml rfl (S_lenL rfl ty_sl_22 (S_bin rfl rfl (ev_add ..) (S_nilc (v := .ptr _ _) rfl rfl (S_faP rfl ty_fd_47_1 ty_sz_3 (S_st (j := 1) (cs' := [.sl 1 (List.map c_u8 p0.b) 0, .I (IntKind.wrap .i64 (p0.at_ + (a5.length : Int)))]) ok rfl rfl rfl hq0 rfl ty_sz_3 rfl rfl (fun ok => Sn (CR (Mi rfl (Ai rfl (Sn (WP_ret ?_))))))))))))))))))))))))) (.refl _)
  with_reducible repeat first | apply Exit.sr | apply Exit.br | apply Exit.jr
  have hwo : WO ((0, .room) :: (q0, .cells [.sl 1 (List.map c_u8 p0.b) 0, .I (IntKind.wrap .i64 (p0.at_ + (a5.length : Int)))]) :: (q1, .cells [.I 5, .I p1.At, .str p1.Name, mslO 2 b1_3 p1.Pairs, .str x10.1, .I x13]) :: mo b1_3 cP p1.Pairs :: O) ((q0, .cells [.sl 1 (List.map c_u8 p0.b) 0, .I (IntKind.wrap .i64 (p0.at_ + (a5.length : Int)))]) :: (q1, .cells [.I 5, .I p1.At, .str p1.Name, mslO 2 b1_3 p1.Pairs, .str x10.1, .I x13]) :: mo b1_3 cP p1.Pairs :: O) := (.drop (.keep (.keep (.keep (.refl O)))))
  refine C_ret (fn := Tryz.f31) rfl (.tmp (v := .I x10.2.2) rfl .nil) ?_
  exact ⟨_, _, (.refl _), (hwo.spec ok).2.2, _, F_some hF, rfl, b1_3, zb1_3, (hwo.spec ok).1, rfl⟩
theorem Fs_text_ok {β : Type} {f0 : Int × TS × TK → Option β} {G : β → Prop} {R : D → Heap → Prop} {p0 : TS} {p1 : TK} {q0 : Nat} {q1 : Nat} {b1_3 : Nat} (h : Heap) (O : List (Nat × AObj)) (hq0 : q0 ≠ 0) (hq1 : q1 ≠ 0) (zb1_3 : b1_3 = 0 → p1.Pairs = []) (ok : OK h ((cSc q0 p0) :: (cTk q1 b1_3 p1) :: mo b1_3 cP p1.Pairs :: O)) (hF : OptP ((Fs_text p0 p1).bind f0) G) (hk : ∀ r b1_3', Fs_text p0 p1 = some r → (b1_3' = 0 → r.2.2.Pairs = []) → OK h ((cSc q0 r.2.1) :: (cTk q1 b1_3' r.2.2) :: mo b1_3' cP r.2.2.Pairs :: O) → OptP (f0 r) G → R (.I r.1) (Hp h ((cSc q0 r.2.1) :: (cTk q1 b1_3' r.2.2) :: mo b1_3' cP r.2.2.Pairs :: O))) : CallsA Tryz.prog 31 [.ptr q0 0, .ptr q1 0] (Hp h ((cSc q0 p0) :: (cTk q1 b1_3 p1) :: mo b1_3 cP p1.Pairs :: O)) R := by
 obtain ⟨r0, hr, hF⟩ := F_bind hF
 refine (Fs_text_w (G := fun r => r = r0) p0 p1 q0 q1 b1_3 h O hq0 hq1 zb1_3 ok ⟨r0, hr, rfl⟩).mono ?_
 rintro _ _ ⟨r, rfl, rfl, b1_3', y0, ok', rfl⟩
 exact hk _ _ hr y0 ok' hF
theorem Fs_token_w (p0 : TS) (p1 : TK) (q0 : Nat) (q1 : Nat) (b1_3 : Nat) {G : Int × TS × TK → Prop} (h : Heap) (O : List (Nat × AObj)) (hq0 : q0 ≠ 0) (hq1 : q1 ≠ 0) (zb1_3 : b1_3 = 0 → p1.Pairs = []) (ok : OK h ((cSc q0 p0) :: (cTk q1 b1_3 p1) :: mo b1_3 cP p1.Pairs :: O)) (hF : OptP (Fs_token p0 p1) G) : CallsA Tryz.prog 15 [.ptr q0 0, .ptr q1 0] (Hp h ((cSc q0 p0) :: (cTk q1 b1_3 p1) :: mo b1_3 cP p1.Pairs :: O)) fun d h' => ∃ r, G r ∧ d = .I r.1 ∧ ∃ b1_3' : Nat, (b1_3' = 0 → r.2.2.Pairs = []) ∧ OK h ((cSc q0 r.2.1) :: (cTk q1 b1_3' r.2.2) :: mo b1_3' cP r.2.2.Pairs :: O) ∧ h' = Hp h ((cSc q0 r.2.1) :: (cTk q1 b1_3' r.2.2) :: mo b1_3' cP r.2.2.Pairs :: O) := by
 refine CallsA.ret (C_bodyO Tryz.func15 rfl en_15 Tryz.ntmps15 rfl ?_)
 rw [Fs_token] at hF
 refine CR (Ai rfl (Sn (C_seq (WP_block (CR (Mp rfl (S_nilc (v := .ptr _ _) rfl rfl (S_faP rfl ty_fd_47_1 ty_sz_3 (S_ldP (j := 0) ok rfl rfl rfl hq0 (p_one (v := .I p0.at_) ty_ag_3 ty_sz_3 rfl) (S_bin rfl rfl (ev_eql ..) (Mb rfl ?_)))))))))))
 refine S_twoJ 3 15 hF (fun J2 hb1 hF => ?_) (fun J2 hb1 hF => ?_) (fun v3 hF => ?_)
 ·refine Sx rfl rfl hb1 (Mp rfl (Sn (Sx rfl rfl hb1 (S_call (Fs_here_ok (p0 := p0) (q0 := q0) h _ hq0 ok hF fun x4 _  ok hF => (Sn (S_pickT (v := .bool _) rfl hb1 rfl (Sn ?_)))) (.refl _)))))
  refine ⟨_, hF, .hd (.refl _) ?_⟩
  repeat first | with_reducible exact .refl _ | refine .add ?_ rfl | exact .refl _
 ·refine So rfl rfl hb1 (So rfl rfl hb1 (S_pickF (v := .bool _) rfl hb1 rfl (Sn ?_)))
  refine ⟨_, hF, .hd (.refl _) ?_⟩
  repeat first | with_reducible exact .refl _ | refine .add ?_ rfl | exact .refl _
 ·refine Mb rfl ?_
  refine S_twoJ 4 20 hF (fun J6 hb5 hF => ?_) (fun J6 hb5 hF => ?_) (fun v7 hF => ?_)
  ·refine Sx rfl rfl hb5 (Mp rfl (Sn (Sx rfl rfl hb5 (S_call (Fs_spaces_ok (p0 := p0) (q0 := q0) h _ hq0 ok hF fun x8 _  ok hF => (Sn (Sx rfl rfl hb5 (S_bin rfl rfl (ev_gtr ..) (Sn (S_pickT (v := .bool _) rfl hb5 rfl (Sn ?_))))))) (.refl _)))))
   refine ⟨_, hF, .hd (.refl _) ?_⟩
   repeat first | with_reducible exact .refl _ | refine .add ?_ rfl | exact .refl _
  ·refine So rfl rfl hb5 (So rfl rfl hb5 (So rfl rfl hb5 (S_pickF (v := .bool _) rfl hb5 rfl (Sn ?_))))
   refine ⟨_, hF, .hd (.refl _) ?_⟩
   repeat first | with_reducible exact .refl _ | refine .add ?_ rfl | exact .refl _
  ·refine Ab rfl (Sn ?_)
   refine C_if (b := v7) rfl hF (fun hb9 hF => ?_) (fun hb9 hF => ?_)
   ·refine CR (Mp rfl (Mp rfl ?_))
    obtain ⟨hpe, ok⟩ := Hp_pull 2 ok rfl
    rw [hpe]; clear hpe
    obtain ⟨hpe, ok⟩ := Hp_pull 2 ok rfl
    rw [hpe]; clear hpe
    obtain ⟨hpe, ok⟩ := Hp_pull 2 ok rfl
    rw [hpe]; clear hpe
    refine S_call (Fs_decl_ok (p0 := p0) (p1 := p1) (q0 := q0) (q1 := q1) (b1_3 := b1_3) h _ hq0 hq1 zb1_3 ok hF fun x10 u11 _ zu11 ok hF => (Ai rfl (Sn (WP_ret ?_)))) (.refl _)
    with_reducible repeat first | apply Exit.sr | apply Exit.br | apply Exit.jr
    refine C_ret (fn := Tryz.f15) rfl (.tmp (v := .I x10.1) rfl .nil) ?_
    exact ⟨_, _, (.refl _), .refl _, _, F_some hF, rfl, u11, zu11, ok, rfl⟩
   ·refine CR (Mp rfl (S_call (Fs_here_ok (p0 := p0) (q0 := q0) h _ hq0 ok hF fun x12 _  ok hF => (Ab rfl (Sn ?_))) (.refl _)))
    refine C_if (b := x12) rfl hF (fun hb13 hF => ?_) (fun hb13 hF => ?_)
    ·refine CR (Mp rfl (S_nilc (v := .ptr _ _) rfl rfl (S_faP rfl ty_fd_41_0 ty_sz_3 (S_st (j := 1) (cs' := [.I 7, .I p1.At, .str p1.Name, mslO 2 b1_3 p1.Pairs, .str p1.Text, .I p1.Refs]) ok rfl rfl rfl hq1 rfl ty_sz_3 rfl rfl (fun ok => Sn (C_seq (CR (Mp rfl (Mp rfl ?_)))))))))
     obtain ⟨hpe, ok⟩ := Hp_pull 2 ok rfl
     rw [hpe]; clear hpe
     obtain ⟨hpe, ok⟩ := Hp_pull 2 ok rfl
     rw [hpe]; clear hpe
     obtain ⟨hpe, ok⟩ := Hp_pull 2 ok rfl
     rw [hpe]; clear hpe
     refine S_call (Fs_upTo_ok (p0 := p0) (p1 := (⟨(7 : Int), p1.At, p1.Name, p1.Pairs, p1.Text, p1.Refs⟩ : TK)) (q0 := q0) (q1 := q1) (b1_3 := b1_3) h _ hq0 hq1 zb1_3 ok hF fun x14 u15 _ zu15 ok hF => (Ai rfl (Sn (CR (Mi rfl (S_bin rfl rfl (ev_neq ..) (Sn ?_))))))) (.refl _)
     refine C_if (b := (x14.1 != (0 : Int))) rfl hF (fun hb16 hF => ?_) (fun hb16 hF => ?_)
     ·refine CR (Mi rfl (Ai rfl (Sn (WP_ret ?_))))
      with_reducible repeat first | apply Exit.sr | apply Exit.br | apply Exit.jr
      refine C_ret (fn := Tryz.f15) rfl (.tmp (v := .I x14.1) rfl .nil) ?_
      exact ⟨_, _, (.refl _), .refl _, _, F_some hF, rfl, u15, zu15, ok, rfl⟩
     ·refine WP_skip (CR (Mp rfl (S_call (Fs_sign_ok (p0 := x14.2.1) (q0 := q0) h _ hq0 ok hF fun x17 _  ok hF => (Ai rfl (Sn (WP_ret ?_)))) (.refl _))))
      with_reducible repeat first | apply Exit.sr | apply Exit.br | apply Exit.jr
      refine C_ret (fn := Tryz.f15) rfl (.tmp (v := .I x17.1) rfl .nil) ?_
      exact ⟨_, _, (.refl _), .refl _, _, F_some hF, rfl, u15, zu15, ok, rfl⟩
    ·refine CR (Mp rfl (S_call (Fs_here_ok (p0 := p0) (q0 := q0) h _ hq0 ok hF fun x18 _  ok hF => (Ab rfl (Sn ?_))) (.refl _)))
     refine C_if (b := x18) rfl hF (fun hb19 hF => ?_) (fun hb19 hF => ?_)
     ·refine CR (Mp rfl (S_nilc (v := .ptr _ _) rfl rfl (S_faP rfl ty_fd_41_0 ty_sz_3 (S_st (j := 1) (cs' := [.I 6, .I p1.At, .str p1.Name, mslO 2 b1_3 p1.Pairs, .str p1.Text, .I p1.Refs]) ok rfl rfl rfl hq1 rfl ty_sz_3 rfl rfl (fun ok => Sn (CR (Mp rfl (Mp rfl ?_))))))))
      obtain ⟨hpe, ok⟩ := Hp_pull 2 ok rfl
      rw [hpe]; clear hpe
      obtain ⟨hpe, ok⟩ := Hp_pull 2 ok rfl
      rw [hpe]; clear hpe
      obtain ⟨hpe, ok⟩ := Hp_pull 2 ok rfl
      rw [hpe]; clear hpe
      refine S_call (Fs_upTo_ok (p0 := p0) (p1 := (⟨(6 : Int), p1.At, p1.Name, p1.Pairs, p1.Text, p1.Refs⟩ : TK)) (q0 := q0) (q1 := q1) (b1_3 := b1_3) h _ hq0 hq1 zb1_3 ok hF fun x20 u21 _ zu21 ok hF => (Ai rfl (Sn (WP_ret ?_)))) (.refl _)
      with_reducible repeat first | apply Exit.sr | apply Exit.br | apply Exit.jr
      refine C_ret (fn := Tryz.f15) rfl (.tmp (v := .I x20.1) rfl .nil) ?_
      exact ⟨_, _, (.refl _), .refl _, _, F_some hF, rfl, u21, zu21, ok, rfl⟩
     ·refine CR (Mp rfl (S_call (Fs_here_ok (p0 := p0) (q0 := q0) h _ hq0 ok hF fun x22 _  ok hF => (Ab rfl (Sn ?_))) (.refl _)))
      refine C_if (b := x22) rfl hF (fun hb23 hF => ?_) (fun hb23 hF => ?_)
      ·refine CR (Ai rfl (Sn (WP_ret ?_)))
       with_reducible repeat first | apply Exit.sr | apply Exit.br | apply Exit.jr
       refine C_ret (fn := Tryz.f15) rfl (.tmp (v := .I 25) rfl .nil) ?_
       exact ⟨_, _, (.refl _), .refl _, _, F_some hF, rfl, b1_3, zb1_3, ok, rfl⟩
      ·refine CR (Mp rfl (S_call (Fs_here_ok (p0 := p0) (q0 := q0) h _ hq0 ok hF fun x24 _  ok hF => (Ab rfl (Sn ?_))) (.refl _)))
       refine C_if (b := x24) rfl hF (fun hb25 hF => ?_) (fun hb25 hF => ?_)
       ·refine CR (Ai rfl (Sn (WP_ret ?_)))
        with_reducible repeat first | apply Exit.sr | apply Exit.br | apply Exit.jr
        refine C_ret (fn := Tryz.f15) rfl (.tmp (v := .I 23) rfl .nil) ?_
        exact ⟨_, _, (.refl _), .refl _, _, F_some hF, rfl, b1_3, zb1_3, ok, rfl⟩
       ·refine CR (Mp rfl (S_call (Fs_here_ok (p0 := p0) (q0 := q0) h _ hq0 ok hF fun x26 _  ok hF => (Ab rfl (Sn ?_))) (.refl _)))
        refine C_if (b := x26) rfl hF (fun hb27 hF => ?_) (fun hb27 hF => ?_)
        ·refine CR (Mp rfl (Mp rfl ?_))
         obtain ⟨hpe, ok⟩ := Hp_pull 2 ok rfl
         rw [hpe]; clear hpe
         obtain ⟨hpe, ok⟩ := Hp_pull 2 ok rfl
         rw [hpe]; clear hpe
         obtain ⟨hpe, ok⟩ := Hp_pull 2 ok rfl
         rw [hpe]; clear hpe
         refine S_call (Fs_instr_ok (p0 := p0) (p1 := p1) (q0 := q0) (q1 := q1) (b1_3 := b1_3) h _ hq0 hq1 zb1_3 ok hF fun x28 u29 _ zu29 ok hF => (Ai rfl (Sn (WP_ret ?_)))) (.refl _)
         with_reducible repeat first | apply Exit.sr | apply Exit.br | apply Exit.jr
         refine C_ret (fn := Tryz.f15) rfl (.tmp (v := .I x28.1) rfl .nil) ?_
         exact ⟨_, _, (.refl _), .refl _, _, F_some hF, rfl, u29, zu29, ok, rfl⟩
        ·refine CR (Mp rfl (S_call (Fs_here_ok (p0 := p0) (q0 := q0) h _ hq0 ok hF fun x30 _  ok hF => (Ab rfl (Sn ?_))) (.refl _)))
         refine C_if (b := x30) rfl hF (fun hb31 hF => ?_) (fun hb31 hF => ?_)
         ·refine CR (Mp rfl (Mp rfl ?_))
          obtain ⟨hpe, ok⟩ := Hp_pull 2 ok rfl
          rw [hpe]; clear hpe
          obtain ⟨hpe, ok⟩ := Hp_pull 2 ok rfl
          rw [hpe]; clear hpe
          obtain ⟨hpe, ok⟩ := Hp_pull 2 ok rfl
          rw [hpe]; clear hpe
          refine S_call (Fs_closing_ok (p0 := p0) (p1 := p1) (q0 := q0) (q1 := q1) (b1_3 := b1_3) h _ hq0 hq1 zb1_3 ok hF fun x32 u33 _ zu33 ok hF => (Ai rfl (Sn (WP_ret ?_)))) (.refl _)
          with_reducible repeat first | apply Exit.sr | apply Exit.br | apply Exit.jr
          refine C_ret (fn := Tryz.f15) rfl (.tmp (v := .I x32.1) rfl .nil) ?_
          exact ⟨_, _, (.refl _), .refl _, _, F_some hF, rfl, u33, zu33, ok, rfl⟩
         ·refine CR (Mp rfl (S_call (Fs_here_ok (p0 := p0) (q0 := q0) h _ hq0 ok hF fun x34 _  ok hF => (Ab rfl (Sn ?_))) (.refl _)))
          refine C_if (b := x34) rfl hF (fun hb35 hF => ?_) (fun hb35 hF => ?_)
          ·refine CR (Mp rfl (Mp rfl ?_))
           obtain ⟨hpe, ok⟩ := Hp_pull 2 ok rfl
           rw [hpe]; clear hpe
           obtain ⟨hpe, ok⟩ := Hp_pull 2 ok rfl
           rw [hpe]; clear hpe
           obtain ⟨hpe, ok⟩ := Hp_pull 2 ok rfl
           rw [hpe]; clear hpe
           refine S_call (Fs_tag_ok (p0 := p0) (p1 := p1) (q0 := q0) (q1 := q1) (b1_3 := b1_3) h _ hq0 hq1 zb1_3 ok hF fun x36 u37 _ zu37 ok hF => (Ai rfl (Sn (WP_ret ?_)))) (.refl _)
           with_reducible repeat first | apply Exit.sr | apply Exit.br | apply Exit.jr
           refine C_ret (fn := Tryz.f15) rfl (.tmp (v := .I x36.1) rfl .nil) ?_
           exact ⟨_, _, (.refl _), .refl _, _, F_some hF, rfl, u37, zu37, ok, rfl⟩
          ·refine WP_skip (CR (Mp rfl (Mp rfl ?_)))
           obtain ⟨hpe, ok⟩ := Hp_pull 2 ok rfl
           rw [hpe]; clear hpe
           obtain ⟨hpe, ok⟩ := Hp_pull 2 ok rfl
           rw [hpe]; clear hpe
           obtain ⟨hpe, ok⟩ := Hp_pull 2 ok rfl
           rw [hpe]; clear hpe
           refine S_call (Fs_text_ok (p0 := p0) (p1 := p1) (q0 := q0) (q1 := q1) (b1_3 := b1_3) h _ hq0 hq1 zb1_3 ok hF fun x38 u39 _ zu39 ok hF => (Ai rfl (Sn (WP_ret ?_)))) (.refl _)
           with_reducible repeat first | apply Exit.sr | apply Exit.br | apply Exit.jr
           refine C_ret (fn := Tryz.f15) rfl (.tmp (v := .I x38.1) rfl .nil) ?_
           exact ⟨_, _, (.refl _), .refl _, _, F_some hF, rfl, u39, zu39, ok, rfl⟩
theorem Fs_token_ok {β : Type} {f0 : Int × TS × TK → Option β} {G : β → Prop} {R : D → Heap → Prop} {p0 : TS} {p1 : TK} {q0 : Nat} {q1 : Nat} {b1_3 : Nat} (h : Heap) (O : List (Nat × AObj)) (hq0 : q0 ≠ 0) (hq1 : q1 ≠ 0) (zb1_3 : b1_3 = 0 → p1.Pairs = []) (ok : OK h ((cSc q0 p0) :: (cTk q1 b1_3 p1) :: mo b1_3 cP p1.Pairs :: O)) (hF : OptP ((Fs_token p0 p1).bind f0) G) (hk : ∀ r b1_3', Fs_token p0 p1 = some r → (b1_3' = 0 → r.2.2.Pairs = []) → OK h ((cSc q0 r.2.1) :: (cTk q1 b1_3' r.2.2) :: mo b1_3' cP r.2.2.Pairs :: O) → OptP (f0 r) G → R (.I r.1) (Hp h ((cSc q0 r.2.1) :: (cTk q1 b1_3' r.2.2) :: mo b1_3' cP r.2.2.Pairs :: O))) : CallsA Tryz.prog 15 [.ptr q0 0, .ptr q1 0] (Hp h ((cSc q0 p0) :: (cTk q1 b1_3 p1) :: mo b1_3 cP p1.Pairs :: O)) R := by
 obtain ⟨r0, hr, hF⟩ := F_bind hF
 refine (Fs_token_w (G := fun r => r = r0) p0 p1 q0 q1 b1_3 h O hq0 hq1 zb1_3 ok ⟨r0, hr, rfl⟩).mono ?_
 rintro _ _ ⟨r, rfl, rfl, b1_3', y0, ok', rfl⟩
 exact hk _ _ hr y0 ok' hF
theorem F_scan_All_w (p0 : LB) {G : (List TK) × Int × Int → Prop} (h : Heap) (hF : OptP (F_scan_All p0) G) : CallsA Tryz.prog 7 [.sl 1 (List.map c_u8 p0) 0] h fun d h' => ∃ r, G r ∧ d = .tup [.sl 6 (List.map cTK r.1) 0, .I r.2.1, .I r.2.2] ∧ h' = h := by
 refine CallsA.ret (C_body Tryz.func7 rfl en_7 Tryz.ntmps7 rfl (fun ok => ?_))
 rw [F_scan_All] at hF
 refine CR (S_a (v := .snil) rfl (S_one 2 (v := .sl 6 (List.map cTK ([] : List TK)) 0) (.nil _) (Ai rfl (Ai rfl (Sn (WP_scope (JW_step (C_seq (CR (Ml rfl (S_lenL rfl ty_sl_22 (S_bin rfl rfl (ev_gtr ..) (Sn ?_)))))))))))))
 refine C_if (b := (decide ((65536 : Int) < (p0.length : Int)))) rfl hF (fun hb1 hF => ?_) (fun hb1 hF => ?_)
 ·refine CR (S_a (v := .snil) rfl (S_one 2 (v := .sl 6 (List.map cTK ([] : List TK)) 0) (.nil _) (Ai rfl (Ai rfl (Sn (WP_ret ?_))))))
  with_reducible repeat first | apply Exit.sr | apply Exit.br | apply Exit.jr
  refine C_ret (fn := Tryz.f7) rfl (.tmp (v := .sl 6 (List.map cTK ([] : List TK)) 0) rfl (.tmp (v := .I 0) rfl (.tmp (v := .I 6) rfl .nil))) ?_
  exact ⟨_, _, (.refl _), ok.wh, _, F_some hF, rfl, rfl⟩
 ·refine WP_skip (C_seq (C_reg (mdl [(18, 1)]) (Ml rfl (S_call (F_scan_Plain_ok _ hF fun x2 _ hF => (S_bld (v := .agg (cTS (⟨x2, (0 : Int)⟩ : TS))) (b_st ty_zc_47 ty_pl_47 rfl) (S_box1 (cs := [.sl 1 (List.map c_u8 (⟨x2, (0 : Int)⟩ : TS).b) 0, .I (⟨x2, (0 : Int)⟩ : TS).at_]) ok rfl rfl rfl rfl ?_))) (.refl _)))))
  intro i3 hi3 ok
  refine S_a (v := .ptr _ _) rfl (Sn (C_seq (CR (Mp rfl (S_nilc (v := .ptr _ _) rfl rfl (S_faP rfl ty_fd_47_0 ty_sz_22 (S_ldP (j := 0) ok rfl rfl rfl hi3 (p_one (v := .sl 1 (List.map c_u8 (⟨x2, (0 : Int)⟩ : TS).b) 0) ty_ag_22 ty_sz_22 rfl) (S_call (Fh_Fault_ok _ hF fun x4 _ hF => (S_m (v := .tup _) rfl (S_ext rfl rfl (S_ext rfl rfl (Ai rfl (Ai rfl (Sn (CR (Mi rfl (S_bin rfl rfl (ev_neq ..) (Sn ?_))))))))))) (.refl _)))))))))
  refine C_if (b := (x4.2 != (0 : Int))) rfl hF (fun hb5 hF => ?_) (fun hb5 hF => ?_)
  ·refine CR (Mi rfl (Mi rfl (S_a (v := .snil) rfl (S_one 2 (v := .sl 6 (List.map cTK ([] : List TK)) 0) (.nil _) (Ai rfl (Ai rfl (Sn (WP_ret ?_))))))))
   with_reducible repeat first | apply Exit.sr | apply Exit.br | apply Exit.jr
   refine C_ret (fn := Tryz.f7) rfl (.tmp (v := .sl 6 (List.map cTK ([] : List TK)) 0) rfl (.tmp (v := .I x4.1) rfl (.tmp (v := .I x4.2) rfl .nil))) ?_
   exact ⟨_, _, (.refl _), ok.wh, _, F_some hF, rfl, rfl⟩
  ·refine WP_skip (CR (S_a (v := .snil) rfl (S_nilB cTK ok (fun ok => Sn (CR (Ai rfl (Sn (C_seq (WP_label ?_)))))))))
   refine C_gloop (σ := LB × Int × (List TK)) hF (fun (v : LB × Int × (List TK)) s' => match v with | (a7, a8, a10) => ∃ g9 : Nat, (g9 = 0 → a10 = []) ∧ OK h [mo g9 cTK a10, (i3, .cells [.sl 1 (List.map c_u8 a7) 0, .I a8])] ∧ WS s' ⟨mkSl 58 [(5, .ptr i3 0), (8, mslO 6 g9 a10)], Hp h [mo g9 cTK a10, (i3, .cells [.sl 1 (List.map c_u8 a7) 0, .I a8])]⟩) ?_ ?_
   ·exact ⟨0, (fun _ => rfl), ok, WS.mk' (.k (.k .nil)) ok (.refl _)⟩
   ·rintro G11 hG12 rec13 ⟨a7, a8, a10⟩ s' ih14 hF ⟨g9, zg9, ok, hws⟩
    refine WP_ws hws ?_
    clear hws s'
    rw [F_scan_All_l0] at hF
    refine C_seq (C_seq ?_)
    refine C_drw (mdl []) (by kernel_rfl) (by kernel_rfl) ?_
    refine Mp rfl (S_nilc (v := .ptr _ _) rfl rfl (S_faP rfl ty_fd_47_1 ty_sz_3 (S_ldP (j := 1) ok rfl rfl rfl hi3 (p_one (v := .I a8) ty_ag_3 ty_sz_3 rfl) (Mp rfl (S_nilc (v := .ptr _ _) rfl rfl (S_faP rfl ty_fd_47_0 ty_sz_22 (S_ldP (j := 1) ok rfl rfl rfl hi3 (p_one (v := .sl 1 (List.map c_u8 a7) 0) ty_ag_22 ty_sz_22 rfl) (S_lenL rfl ty_sl_22 (S_bin rfl rfl (ev_eql ..) (Sn ?_))))))))))
    refine C_if (b := (a8 == (a7.length : Int))) rfl hF (fun hb15 hF => ?_) (fun hb15 hF => ?_)
    ·refine CR (S_m (v := mslO _ _ _) rfl (S_a (v := mslO _ _ _) rfl (S_frzO 0 2 ok zg9 rfl rfl (fun _ => rfl) (fun ok => Ai rfl (Ai rfl (Sn (WP_ret ?_)))))))
     replace hF := hG12 _ (F_some hF)
     with_reducible repeat first | apply Exit.sr | apply Exit.br | apply Exit.jr
     refine C_ret (fn := Tryz.f7) rfl (.tmp (v := .sl 6 (List.map cTK a10) 0) rfl (.tmp (v := .I 0) rfl (.tmp (v := .I 0) rfl .nil))) ?_
     exact ⟨_, _, (.refl _), ok.wh, _, F_some hF, rfl, rfl⟩
    ·refine WP_skip (CR (Mp rfl (S_nilc (v := .ptr _ _) rfl rfl (S_faP rfl ty_fd_47_1 ty_sz_3 (S_ldP (j := 1) ok rfl rfl rfl hi3 (p_one (v := .I a8) ty_ag_3 ty_sz_3 rfl) (Ai rfl (Sn (C_seq (C_reg (mdl [(11, 1)]) (Mi rfl (S_bld (v := .agg [.I 0, .I a8, .str nB, .snil, .str nB, .I 0]) (b_st ty_zc_41 ty_pl_41 rfl) (S_all1 ok rfl ty_zc_41 ?_))))))))))))
     intro i17 hi17 ok
     refine S_nilB cP ok (fun ok => S_st (j := 1) (cs' := [.I 0, .I a8, .str nB, .snil, .str nB, .I 0]) ok rfl rfl rfl hi17 rfl ty_sz_41 rfl rfl (fun ok => S_nilB cP ok (fun ok => Sn (CR (Mp rfl ?_)))))
     obtain ⟨hpe, ok⟩ := Hp_pull 2 ok rfl
     rw [hpe]; clear hpe
     obtain ⟨hpe, ok⟩ := Hp_pull 4 ok rfl
     rw [hpe]; clear hpe
     refine S_call (Fs_token_ok (p0 := (⟨a7, a8⟩ : TS)) (p1 := (⟨(0 : Int), a8, nB, nP, nB, (0 : Int)⟩ : TK)) (q0 := i3) (q1 := i17) (b1_3 := 0) h [mo 0 cP nP, mo g9 cTK a10] hi3 hi17 (fun _ => rfl) ok hF fun x20 u21 _ zu21 ok hF => (Ai rfl (Sn (C_seq (CR (Mi rfl (S_bin rfl rfl (ev_neq ..) (Sn ?_)))))))) (.refl _)
     refine C_if (b := (x20.1 != (0 : Int))) rfl hF (fun hb22 hF => ?_) (fun hb22 hF => ?_)
     ·refine CR (Mi rfl (Mi rfl (S_a (v := .snil) rfl (S_one 2 (v := .sl 6 (List.map cTK ([] : List TK)) 0) (.nil _) (Ai rfl (Ai rfl (Sn (WP_ret ?_))))))))
      replace hF := hG12 _ (F_some hF)
      with_reducible repeat first | apply Exit.sr | apply Exit.br | apply Exit.jr
      refine C_ret (fn := Tryz.f7) rfl (.tmp (v := .sl 6 (List.map cTK ([] : List TK)) 0) rfl (.tmp (v := .I a8) rfl (.tmp (v := .I x20.1) rfl .nil))) ?_
      exact ⟨_, _, (.refl _), ok.wh, _, F_some hF, rfl, rfl⟩
     ·refine WP_skip (C_seq (C_reg (mdl [(57, 1)]) ?_))
      refine S_frzF (c := cP) (e := x20.2.2.Pairs) (cs' := [.I x20.2.2.Kind, .I x20.2.2.At, .str x20.2.2.Name, .sl 2 (List.map cP x20.2.2.Pairs) 0, .str x20.2.2.Text, .I x20.2.2.Refs]) 1 2 3 ok zu21 rfl hi17 rfl (by decide) (fun _ => rfl) rfl rfl (fun ok => ?_)
      refine S_frzP 1 11 ok rfl rfl hi17 (fun ok => S_m (v := mslO _ _ _) rfl (S_ldQ rfl (p_agg (vs := cTK x20.2.2) ty_ag_41 ty_sz_41 rfl rfl) ?_))
      refine S_lit0 (cs := [.I x20.2.2.Kind, .I x20.2.2.At, .str x20.2.2.Name, .sl 2 (List.map cP x20.2.2.Pairs) 0, .str x20.2.2.Text, .I x20.2.2.Refs]) (es := (List.map cTK [x20.2.2])) rfl ty_el_25 rfl (by kernel_rfl) (by kernel_rfl) ?_
      refine S_appO (j := 4) (M := [x20.2.2]) ok zg9 rfl rfl src_sl (fun _ => rfl) rfl ty_el_25 ty_ni_25 hF ?_
      intro u26 zu26 ok hF
      obtain ⟨a27, ha27, hF⟩ := F_let hF
      rw [← ha27] at ok zu26
      rw [← ha27]
      refine S_a (v := mslO _ _ _) rfl (Sn (WP_goto ?_))
      repeat (first | with_reducible refine Exit.sel_goto ?_ | with_reducible refine Exit.blk_goto ?_)
      refine jmp_goto rfl (ih14 (x20.2.1.b, x20.2.1.at_, a27) _ hF ?_)
      obtain ⟨hpe, ok⟩ := Hp_pull 4 ok rfl
      rw [hpe]; clear hpe
      have hwo : WO [mo u26 cTK a27, (cSc i3 x20.2.1), (0, .room), (0, .room), mo 0 cP nP] [mo u26 cTK a27, (cSc i3 x20.2.1)] := (.keep (.keep (.drop (.drop (.drop .nil)))))
      exact ⟨u26, zu26, (hwo.spec ok).1, WS.mk' (.k (.k .nil)) ok hwo⟩
theorem F_scan_All_ok {β : Type} {f : (List TK) × Int × Int → Option β} {G : β → Prop} {R : D → Heap → Prop} {p0 : LB} (h : Heap) (hF : OptP ((F_scan_All p0).bind f) G) (hk : ∀ r, F_scan_All p0 = some r → OptP (f r) G → R (.tup [.sl 6 (List.map cTK r.1) 0, .I r.2.1, .I r.2.2]) h) : CallsA Tryz.prog 7 [.sl 1 (List.map c_u8 p0) 0] h R := by
 obtain ⟨r0, hr, hF⟩ := F_bind hF
 refine (F_scan_All_w (G := fun r => r = r0) p0 h ⟨r0, hr, rfl⟩).mono ?_
 rintro _ _ ⟨r, rfl, rfl, rfl⟩
 exact hk _ hr hF
theorem Fl_awake_w {G : Bool → Prop} (h : Heap) (hF : OptP (Fl_awake) G) : CallsA Tryz.prog 5 [] h fun d h' => ∃ r, G r ∧ d = .bool r ∧ h' = h := by
 refine CallsA.ret (C_body Tryz.func5 rfl en_5 Tryz.ntmps5 rfl (fun ok => ?_))
 rw [Fl_awake] at hF
 refine CR (Ab rfl (Sn (C_seq (C_reg (mdl [(8, 5), (9, 5)]) ?_))))
 refine S_lit5 (cs := [.int .u8 60, .int .u8 97, .int .u8 62, .int .u8 120, .int .u8 38, .int .u8 97, .int .u8 109, .int .u8 112, .int .u8 59, .int .u8 121, .int .u8 60, .int .u8 47, .int .u8 97, .int .u8 62]) ok rfl ty_el_22 rfl (by kernel_rfl) ?_
 intro i1 hi1 ok
 refine S_cvt (v := .sl 1 (List.map c_u8 ([60, 97, 62, 120, 38, 97, 109, 112, 59, 121, 60, 47, 97, 62] : LB)) 0) (by kernel_rfl) 0 ok rfl rfl hi1 rfl ty_sl_22 ty_ki_5 rfl rfl (fun ok => ?_)
 refine S_call (F_scan_All_ok _ hF fun x3 _ hF => (S_m (v := .tup _) rfl (S_ext rfl rfl (S_ext rfl rfl (S_ext rfl rfl (S_a (v := .sl _ _ _) rfl (Ai rfl (Ai rfl (Sn (C_seq (C_reg (mdl [(15, 5), (16, 5)]) ?_))))))))))) (.refl _)
 refine S_lit5 (cs := [.int .u8 60, .int .u8 97, .int .u8 32, .int .u8 98, .int .u8 61, .int .u8 39, .int .u8 49, .int .u8 39, .int .u8 32, .int .u8 98, .int .u8 61, .int .u8 39, .int .u8 50, .int .u8 39, .int .u8 62]) ok rfl ty_el_22 rfl (by kernel_rfl) ?_
 intro i4 hi4 ok
 refine S_cvt (v := .sl 1 (List.map c_u8 ([60, 97, 32, 98, 61, 39, 49, 39, 32, 98, 61, 39, 50, 39, 62] : LB)) 0) (by kernel_rfl) 0 ok rfl rfl hi4 rfl ty_sl_22 ty_ki_5 rfl rfl (fun ok => ?_)
 refine S_call (F_scan_All_ok _ hF fun x6 _ hF => (S_m (v := .tup _) rfl (S_ext rfl rfl (S_ext rfl rfl (S_ext rfl rfl (S_a (v := .sl _ _ _) rfl (Ai rfl (Ai rfl (Sn (CR (Mi rfl (S_bin rfl rfl (ev_eql ..) (Mb rfl ?_))))))))))))) (.refl _)
 refine S_two (b := (x3.2.2 == (0 : Int))) 3 26 (.bool ((x3.2.2 == (0 : Int)) && (x6.2.2 == (27 : Int)))) (fun hb7 => ?_) (fun hb7 => ?_) ?_
 ·refine Sx rfl rfl hb7 (Mi rfl (Sn (Sx rfl rfl hb7 (S_bin rfl rfl (ev_eql ..) (Sn (S_pickT (v := .bool _) rfl hb7 rfl (Sn (.hd (and_t hb7) ?_))))))))
  repeat first | with_reducible exact .refl _ | refine .add ?_ rfl | exact .refl _
 ·refine So rfl rfl hb7 (So rfl rfl hb7 (S_pickF (v := .bool _) rfl hb7 rfl (Sn (.hd (and_f hb7) ?_))))
  repeat first | with_reducible exact .refl _ | refine .add ?_ rfl | exact .refl _
 refine Mb rfl ?_
 refine S_two (b := ((x3.2.2 == (0 : Int)) && (x6.2.2 == (27 : Int)))) 4 31 (.bool (((x3.2.2 == (0 : Int)) && (x6.2.2 == (27 : Int))) && ((x3.1.length : Int) == (3 : Int)))) (fun hb8 => ?_) (fun hb8 => ?_) ?_
 ·refine Sx rfl rfl hb8 (Ml rfl (Sn (Sx rfl rfl hb8 (S_lenL rfl ty_sl_25 (Sn (Sx rfl rfl hb8 (S_bin rfl rfl (ev_eql ..) (Sn (S_pickT (v := .bool _) rfl hb8 rfl (Sn (.hd (and_t hb8) ?_)))))))))))
  repeat first | with_reducible exact .refl _ | refine .add ?_ rfl | exact .refl _
 ·refine So rfl rfl hb8 (So rfl rfl hb8 (So rfl rfl hb8 (S_pickF (v := .bool _) rfl hb8 rfl (Sn (.hd (and_f hb8) ?_)))))
  repeat first | with_reducible exact .refl _ | refine .add ?_ rfl | exact .refl _
 refine Mb rfl ?_
 refine S_twoJ 6 38 hF (fun J10 hb9 hF => ?_) (fun J10 hb9 hF => ?_) (fun v11 hF => ?_)
 ·refine Sx rfl rfl hb9 (Ml rfl (Sn (Sx rfl rfl hb9 (S_ix rfl rfl ty_sl_25 ty_sz_41 hF (fun x12 _ hF => Sn (Sx rfl rfl hb9 (S_faQ rfl ty_fd_41_4 ty_sz_9 rfl (Sn (Sx rfl rfl hb9 (S_ldQ rfl (p_one ty_ag_9 ty_sz_9 rfl) (Sn (Sx rfl rfl hb9 (S_bin rfl rfl e_seql (Sn (S_pickT (v := .bool _) rfl hb9 rfl (Sn ?_))))))))))))))))
  refine ⟨_, hF, .hd (.refl _) ?_⟩
  repeat first | with_reducible exact .refl _ | refine .add ?_ rfl | exact .refl _
 ·refine So rfl rfl hb9 (So rfl rfl hb9 (So rfl rfl hb9 (So rfl rfl hb9 (So rfl rfl hb9 (S_pickF (v := .bool _) rfl hb9 rfl (Sn ?_))))))
  refine ⟨_, hF, .hd (.refl _) ?_⟩
  repeat first | with_reducible exact .refl _ | refine .add ?_ rfl | exact .refl _
 ·refine Mb rfl ?_
  refine S_twoJ 6 45 hF (fun J14 hb13 hF => ?_) (fun J14 hb13 hF => ?_) (fun v15 hF => ?_)
  ·refine Sx rfl rfl hb13 (Ml rfl (Sn (Sx rfl rfl hb13 (S_ix rfl rfl ty_sl_25 ty_sz_41 hF (fun x16 _ hF => Sn (Sx rfl rfl hb13 (S_faQ rfl ty_fd_41_5 ty_sz_3 rfl (Sn (Sx rfl rfl hb13 (S_ldQ rfl (p_one ty_ag_3 ty_sz_3 rfl) (Sn (Sx rfl rfl hb13 (S_bin rfl rfl (ev_eql ..) (Sn (S_pickT (v := .bool _) rfl hb13 rfl (Sn ?_))))))))))))))))
   refine ⟨_, hF, .hd (.refl _) ?_⟩
   repeat first | with_reducible exact .refl _ | refine .add ?_ rfl | exact .refl _
  ·refine So rfl rfl hb13 (So rfl rfl hb13 (So rfl rfl hb13 (So rfl rfl hb13 (So rfl rfl hb13 (S_pickF (v := .bool _) rfl hb13 rfl (Sn ?_))))))
   refine ⟨_, hF, .hd (.refl _) ?_⟩
   repeat first | with_reducible exact .refl _ | refine .add ?_ rfl | exact .refl _
  ·refine Mb rfl ?_
   refine S_twoJ 6 52 hF (fun J18 hb17 hF => ?_) (fun J18 hb17 hF => ?_) (fun v19 hF => ?_)
   ·refine Sx rfl rfl hb17 (Ml rfl (Sn (Sx rfl rfl hb17 (S_ix rfl rfl ty_sl_25 ty_sz_41 hF (fun x20 _ hF => Sn (Sx rfl rfl hb17 (S_faQ rfl ty_fd_41_0 ty_sz_3 rfl (Sn (Sx rfl rfl hb17 (S_ldQ rfl (p_one ty_ag_3 ty_sz_3 rfl) (Sn (Sx rfl rfl hb17 (S_bin rfl rfl (ev_eql ..) (Sn (S_pickT (v := .bool _) rfl hb17 rfl (Sn ?_))))))))))))))))
    refine ⟨_, hF, .hd (.refl _) ?_⟩
    repeat first | with_reducible exact .refl _ | refine .add ?_ rfl | exact .refl _
   ·refine So rfl rfl hb17 (So rfl rfl hb17 (So rfl rfl hb17 (So rfl rfl hb17 (So rfl rfl hb17 (S_pickF (v := .bool _) rfl hb17 rfl (Sn ?_))))))
    refine ⟨_, hF, .hd (.refl _) ?_⟩
    repeat first | with_reducible exact .refl _ | refine .add ?_ rfl | exact .refl _
   ·refine Mb rfl ?_
    refine S_twoJ 6 59 hF (fun J22 hb21 hF => ?_) (fun J22 hb21 hF => ?_) (fun v23 hF => ?_)
    ·refine Sx rfl rfl hb21 (Ml rfl (Sn (Sx rfl rfl hb21 (S_ix rfl rfl ty_sl_25 ty_sz_41 hF (fun x24 _ hF => Sn (Sx rfl rfl hb21 (S_faQ rfl ty_fd_41_1 ty_sz_3 rfl (Sn (Sx rfl rfl hb21 (S_ldQ rfl (p_one ty_ag_3 ty_sz_3 rfl) (Sn (Sx rfl rfl hb21 (S_bin rfl rfl (ev_eql ..) (Sn (S_pickT (v := .bool _) rfl hb21 rfl (Sn ?_))))))))))))))))
     refine ⟨_, hF, .hd (.refl _) ?_⟩
     repeat first | with_reducible exact .refl _ | refine .add ?_ rfl | exact .refl _
    ·refine So rfl rfl hb21 (So rfl rfl hb21 (So rfl rfl hb21 (So rfl rfl hb21 (So rfl rfl hb21 (S_pickF (v := .bool _) rfl hb21 rfl (Sn ?_))))))
     refine ⟨_, hF, .hd (.refl _) ?_⟩
     repeat first | with_reducible exact .refl _ | refine .add ?_ rfl | exact .refl _
    ·refine Ab rfl (Sn (WP_ret ?_))
     with_reducible repeat first | apply Exit.sr | apply Exit.br | apply Exit.jr
     refine C_ret (fn := Tryz.f5) rfl (.tmp (v := .bool v23) rfl .nil) ?_
     exact ⟨_, _, (.refl _), ok.wh, _, F_some hF, rfl, rfl⟩
theorem Fl_awake_ok {β : Type} {f : Bool → Option β} {G : β → Prop} {R : D → Heap → Prop} (h : Heap) (hF : OptP ((Fl_awake).bind f) G) (hk : ∀ r, Fl_awake = some r → OptP (f r) G → R (.bool r) h) : CallsA Tryz.prog 5 [] h R := by
 obtain ⟨r0, hr, hF⟩ := F_bind hF
 refine (Fl_awake_w (G := fun r => r = r0)  h ⟨r0, hr, rfl⟩).mono ?_
 rintro _ _ ⟨r, rfl, rfl, rfl⟩
 exact hk _ hr hF
theorem Fa_Spare_w (p0 : LB) {G : LB × LB → Prop} (h : Heap) (hF : OptP (Fa_Spare p0) G) : CallsA Tryz.prog 6 [.sl 1 (List.map c_u8 p0) 0] h fun d h' => ∃ r, G r ∧ d = .slx 1 (List.map c_u8 r.1) (List.map c_u8 r.2) ∧ h' = h := by
 refine CallsA.ret (C_body Tryz.func6 rfl en_6 Tryz.ntmps6 rfl (fun ok => ?_))
 rw [Fa_Spare] at hF
 refine CR (S_a (v := .snil) rfl (S_one 2 (v := .sl 1 (List.map c_u8 nB) 0) (.nil _) (Sn (C_seq (C_reg (mdl [(6, 1), (8, 1), (10, 1)]) (Ml rfl (S_lenL rfl ty_sl_22 (S_bin rfl rfl (ev_add ..) (S_mk1O (c := c_u8) (z0 := (0 : UInt8)) ok rfl ty_el_22 rfl rfl rfl hF ?_)))))))))
 intro u1 zu1 ok hF
 obtain ⟨a2, ha2, hF⟩ := F_let hF
 rw [← ha2] at ok zu1
 rw [← ha2]
 refine Ml rfl (S_appO (j := 0) (M := p0) ok zu1 rfl rfl src_sl (fun _ => rfl) rfl ty_el_22 ty_ni_22 hF ?_)
 intro u3 zu3 ok hF
 obtain ⟨a4, ha4, hF⟩ := F_let hF
 rw [← ha4] at ok zu3
 rw [← ha4]
 obtain ⟨b5, hb5, hF⟩ := F_bind hF
 replace hb5 := u8_spec hb5
 refine S_lit0 (es := List.map c_u8 [b5]) rfl ty_el_22 rfl rfl (by simp only [List.map_cons, List.map_nil, c_u8, hb5]; rfl) ?_
 refine S_appO (j := 0) (M := [b5]) ok zu3 rfl rfl src_sl (fun _ => rfl) rfl ty_el_22 ty_ni_22 hF ?_
 intro u6 zu6 ok hF
 obtain ⟨a7, ha7, hF⟩ := F_let hF
 rw [← ha7] at ok zu6
 rw [← ha7]
 refine Ml rfl (S_lenL rfl ty_sl_22 (S_frzO 0 10 ok zu6 rfl rfl (fun _ => rfl) (fun ok => ?_)))
 obtain ⟨x10, hx10, hF⟩ := F_bind hF
 refine S_toX 10 (e := a7) rfl (idx_ne hx10) (S_slX (e := a7) (sp := []) rfl ty_sl_22 ty_sz_5 rfl hF (fun x8 _ hF => S_a (v := .slx _ _ _) rfl (Sn (WP_ret ?_))))
 with_reducible repeat first | apply Exit.sr | apply Exit.br | apply Exit.jr
 refine C_ret (fn := Tryz.f6) rfl (.tmp (v := .slx 1 (List.map c_u8 x8) (List.map c_u8 (List.drop (Int.toNat (p0.length : Int)) (a7 ++ [])))) rfl .nil) ?_
 exact ⟨_, _, (.refl _), ok.wh, _, F_some hF, rfl, rfl⟩
theorem Fa_Spare_ok {β : Type} {f : LB × LB → Option β} {G : β → Prop} {R : D → Heap → Prop} {p0 : LB} (h : Heap) (hF : OptP ((Fa_Spare p0).bind f) G) (hk : ∀ r, Fa_Spare p0 = some r → OptP (f r) G → R (.slx 1 (List.map c_u8 r.1) (List.map c_u8 r.2)) h) : CallsA Tryz.prog 6 [.sl 1 (List.map c_u8 p0) 0] h R := by
 obtain ⟨r0, hr, hF⟩ := F_bind hF
 refine (Fa_Spare_w (G := fun r => r = r0) p0 h ⟨r0, hr, rfl⟩).mono ?_
 rintro _ _ ⟨r, rfl, rfl, rfl⟩
 exact hk _ hr hF
theorem Fa_Lines_w (p0 : LB) {G : LB → Prop} (h : Heap) (hF : OptP (Fa_Lines p0) G) : CallsA Tryz.prog 20 [.sl 1 (List.map c_u8 p0) 0] h fun d h' => ∃ r, G r ∧ d = .sl 1 (List.map c_u8 r) 0 ∧ h' = h := by
 refine CallsA.ret (C_body Tryz.func20 rfl en_20 Tryz.ntmps20 rfl (fun ok => ?_))
 rw [Fa_Lines] at hF
 refine CR (S_a (v := .snil) rfl (S_one 2 (v := .sl 1 (List.map c_u8 nB) 0) (.nil _) (Sn (C_seq (C_reg (mdl [(5, 2)]) ?_)))))
 refine S_lit2 (es := List.map c_u8 []) ok rfl ty_el_22 rfl rfl (by simp only [List.map_cons, List.map_nil, c_u8, ]; rfl) ?_
 intro r1 hr1 ok
 refine S_a (v := .sl _ _ _) rfl (Sn ?_)
 refine C_join hF (fun (a36 : LB) s' => ∃ g37 : Nat, g37 ≠ 0 ∧ OK h [(g37, .room)] ∧ WS s' ⟨mkSl 45 [(3, .sl 1 (List.map c_u8 a36) g37)], Hp h [(g37, .room)]⟩) (fun J38 hF => ?_) ?_
 ·refine CR (Ai rfl (Sn (WP_block ?_)))
  refine C_loop (σ := LB × Int) hF (fun (v : LB × Int) s' => match v with | (a39, a41) => ∃ g40 : Nat, g40 ≠ 0 ∧ OK h [(g40, .room)] ∧ WS s' ⟨mkSl 45 [(0, .sl 1 (List.map c_u8 p0) 0), (3, .sl 1 (List.map c_u8 a39) g40), (4, .I a41)], Hp h [(g40, .room)]⟩) ?_ ?_
  ·exact ⟨r1, hr1, ok, WS.mk' (.k (.k (.k .nil))) ok (.refl _)⟩
  ·rintro G42 hG43 rec44 ⟨a39, a41⟩ s' ih45 hF ⟨g40, hg40, ok, hws⟩
   refine WP_ws hws ?_
   clear hws s'
   rw [Fa_Lines_l0] at hF
   refine C_seq (CR (Mi rfl (Ml rfl (S_lenL rfl ty_sl_22 (S_bin rfl rfl (ev_lss ..) (Sn ?_))))))
   refine C_if (b := (decide (a41 < (p0.length : Int)))) rfl hF (fun hb46 hF => ?_) (fun hb46 hF => ?_)
   ·refine WP_skip ?_
    refine C_join hF (fun (a61 : LB) s' => ∃ g62 : Nat, g62 ≠ 0 ∧ OK h [(g62, .room)] ∧ WS s' ⟨mkSl 45 [(0, .sl 1 (List.map c_u8 p0) 0), (3, .sl 1 (List.map c_u8 a61) g62), (4, .I a41)], Hp h [(g62, .room)]⟩) (fun J63 hF => ?_) ?_
    ·refine WP_block (CR (Ml rfl (Mi rfl (S_ix rfl rfl ty_sl_22 ty_sz_5 hF (fun x64 _ hF => S_ldQ rfl (p_one ty_ag_5 ty_sz_5 rfl) (S_bin rfl rfl (ev_eql ..) (Sn ?_)))))))
     refine C_if (b := ((x64.toNat : Int) == (13 : Int))) rfl hF (fun hb65 hF => ?_) (fun hb65 hF => ?_)
     ·refine C_reg (mdl [(19, 2)]) (Ml rfl ?_)
      obtain ⟨b66, hb66, hF⟩ := F_bind hF
      replace hb66 := u8_spec hb66
      refine S_lit0 (es := List.map c_u8 [b66]) rfl ty_el_22 rfl rfl (by simp only [List.map_cons, List.map_nil, c_u8, hb66]; rfl) ?_
      refine S_app (j := 0) ok rfl rfl rfl rfl hg40 ty_el_22 ty_ni_22 hF ?_
      intro r67 hr67 ok hF
      refine S_a (v := .sl _ _ _) rfl (Sn ?_)
      exact ⟨(a39 ++ [b66]), hF, r67, hr67, ok, WS.mk' (.k (.k (.k .nil))) ok (.refl _)⟩
     ·refine CR (Ml rfl (Mi rfl (S_ix rfl rfl ty_sl_22 ty_sz_5 hF (fun x68 _ hF => S_ldQ rfl (p_one ty_ag_5 ty_sz_5 rfl) (S_bin rfl rfl (ev_neq ..) (Mb rfl ?_))))))
      refine S_two (b := ((x68.toNat : Int) != (10 : Int))) 3 28 (.bool (((x68.toNat : Int) != (10 : Int)) || (a41 == (0 : Int)))) (fun hb69 => ?_) (fun hb69 => ?_) ?_
      ·refine So rfl rfl hb69 (So rfl rfl hb69 (S_pickT (v := .bool _) rfl hb69 rfl (Sn (.hd (or_t hb69) ?_))))
       repeat first | with_reducible exact .refl _ | refine .add ?_ rfl | exact .refl _
      ·refine Sx rfl rfl hb69 (Mi rfl (Sn (Sx rfl rfl hb69 (S_bin rfl rfl (ev_eql ..) (Sn (S_pickF (v := .bool _) rfl hb69 rfl (Sn (.hd (or_f hb69) ?_))))))))
       repeat first | with_reducible exact .refl _ | refine .add ?_ rfl | exact .refl _
      refine Mb rfl ?_
      refine S_twoJ 7 36 hF (fun J71 hb70 hF => ?_) (fun J71 hb70 hF => ?_) (fun v72 hF => ?_)
      ·refine So rfl rfl hb70 (So rfl rfl hb70 (So rfl rfl hb70 (So rfl rfl hb70 (So rfl rfl hb70 (So rfl rfl hb70 (S_pickT (v := .bool _) rfl hb70 rfl (Sn ?_)))))))
       refine ⟨_, hF, .hd (.refl _) ?_⟩
       repeat first | with_reducible exact .refl _ | refine .add ?_ rfl | exact .refl _
      ·refine Sx rfl rfl hb70 (Ml rfl (Sn (Sx rfl rfl hb70 (Mi rfl (Sn (Sx rfl rfl hb70 (S_bin rfl rfl (ev_sub ..) (Sn (Sx rfl rfl hb70 (S_ix rfl rfl ty_sl_22 ty_sz_5 hF (fun x73 _ hF => Sn (Sx rfl rfl hb70 (S_ldQ rfl (p_one ty_ag_5 ty_sz_5 rfl) (Sn (Sx rfl rfl hb70 (S_bin rfl rfl (ev_neq ..) (Sn (S_pickF (v := .bool _) rfl hb70 rfl (Sn ?_)))))))))))))))))))
       refine ⟨_, hF, .hd (.refl _) ?_⟩
       repeat first | with_reducible exact .refl _ | refine .add ?_ rfl | exact .refl _
      ·refine Sn ?_
       refine C_if (b := v72) rfl hF (fun hb74 hF => ?_) (fun hb74 hF => ?_)
       ·refine C_reg (mdl [(43, 2)]) (Ml rfl (Ml rfl (Mi rfl (S_ix rfl rfl ty_sl_22 ty_sz_5 hF (fun x75 _ hF => S_ldQ rfl (p_one ty_ag_5 ty_sz_5 rfl) ?_)))))
        obtain ⟨b76, hb76, hF⟩ := F_bind hF
        replace hb76 := u8_spec hb76
        refine S_lit0 (es := List.map c_u8 [b76]) rfl ty_el_22 rfl rfl (by simp only [List.map_cons, List.map_nil, c_u8, hb76]; rfl) ?_
        refine S_app (j := 0) ok rfl rfl rfl rfl hg40 ty_el_22 ty_ni_22 hF ?_
        intro r77 hr77 ok hF
        refine S_a (v := .sl _ _ _) rfl (Sn ?_)
        exact ⟨(a39 ++ [b76]), hF, r77, hr77, ok, WS.mk' (.k (.k (.k .nil))) ok (.refl _)⟩
       ·refine WP_skip ?_
        exact ⟨a39, hF, g40, hg40, ok, WS.mk' (.k (.k (.k .nil))) ok (.refl _)⟩
    ·rintro a61 s' hF ⟨g62, hg62, ok, hws⟩
     refine WP_ws hws ?_
     clear hws s'
     refine C_reg (mdl []) (Mi rfl (S_bin rfl rfl (ev_add ..) (Ai rfl (Sn (ih45 (a61, (IntKind.wrap .i64 (a41 + (1 : Int)))) _ hF ?_)))))
     exact ⟨g62, hg62, ok, WS.mk' (.k (.k (.k .nil))) ok (.refl _)⟩
   ·refine WP_exit ?_
    simp only [Exit.sel, Exit.blk, Exit.jmp, if_true, if_false, reduceIte, Nat.reduceEqDiff, Nat.succ_ne_zero, Nat.zero_ne_one, Nat.one_ne_zero]
    replace hF := hG43 _ (F_some hF)
    exact ⟨a39, hF, g40, hg40, ok, WS.mk' (.k .nil) ok (.refl _)⟩
 ·rintro a36 s' hF ⟨g37, hg37, ok, hws⟩
  refine WP_ws hws ?_
  clear hws s'
  refine CR (Ml rfl (S_one 44 (v := .sl 1 (List.map c_u8 a36) 0) (.zero _ _ _) (S_a (v := .sl _ _ _) rfl (Sn (WP_ret ?_)))))
  with_reducible repeat first | apply Exit.sr | apply Exit.br | apply Exit.jr
  refine C_ret (fn := Tryz.f20) rfl (.tmp (v := .sl 1 (List.map c_u8 a36) 0) rfl .nil) ?_
  exact ⟨_, _, (.refl _), ok.wh, _, F_some hF, rfl, rfl⟩
theorem Fa_Lines_ok {β : Type} {f : LB → Option β} {G : β → Prop} {R : D → Heap → Prop} {p0 : LB} (h : Heap) (hF : OptP ((Fa_Lines p0).bind f) G) (hk : ∀ r, Fa_Lines p0 = some r → OptP (f r) G → R (.sl 1 (List.map c_u8 r) 0) h) : CallsA Tryz.prog 20 [.sl 1 (List.map c_u8 p0) 0] h R := by
 obtain ⟨r0, hr, hF⟩ := F_bind hF
 refine (Fa_Lines_w (G := fun r => r = r0) p0 h ⟨r0, hr, rfl⟩).mono ?_
 rintro _ _ ⟨r, rfl, rfl, rfl⟩
 exact hk _ hr hF
theorem Fc_Text_w (p0 : LB) {G : LB → Prop} (h : Heap) (hF : OptP (Fc_Text p0) G) : CallsA Tryz.prog 10 [.sl 1 (List.map c_u8 p0) 0] h fun d h' => ∃ r, G r ∧ d = .str r ∧ h' = h := by
 refine CallsA.ret (C_body Tryz.func10 rfl en_10 Tryz.ntmps10 rfl (fun ok => ?_))
 rw [Fc_Text] at hF
 refine CR (S_a (v := .str nB) rfl (Sn ?_))
 refine C_join hF (fun (a15 : LB) s' => OK h [] ∧ WS s' ⟨mkSl 29 [(0, .sl 1 (List.map c_u8 a15) 0)], Hp h []⟩) (fun J16 hF => ?_) ?_
 ·refine CR (Ml rfl (S_lenL rfl ty_sl_22 (S_bin rfl rfl (ev_geq ..) (Mb rfl ?_))))
  refine S_twoJ 5 11 hF (fun J18 hb17 hF => ?_) (fun J18 hb17 hF => ?_) (fun v19 hF => ?_)
  ·refine Sx rfl rfl hb17 (Ml rfl (Sn (Sx rfl rfl hb17 (S_ix rfl rfl ty_sl_22 ty_sz_5 hF (fun x20 _ hF => Sn (Sx rfl rfl hb17 (S_ldQ rfl (p_one ty_ag_5 ty_sz_5 rfl) (Sn (Sx rfl rfl hb17 (S_bin rfl rfl (ev_eql ..) (Sn (S_pickT (v := .bool _) rfl hb17 rfl (Sn ?_)))))))))))))
   refine ⟨_, hF, .hd (.refl _) ?_⟩
   repeat first | with_reducible exact .refl _ | refine .add ?_ rfl | exact .refl _
  ·refine So rfl rfl hb17 (So rfl rfl hb17 (So rfl rfl hb17 (So rfl rfl hb17 (S_pickF (v := .bool _) rfl hb17 rfl (Sn ?_)))))
   refine ⟨_, hF, .hd (.refl _) ?_⟩
   repeat first | with_reducible exact .refl _ | refine .add ?_ rfl | exact .refl _
  ·refine Mb rfl ?_
   refine S_twoJ 5 17 hF (fun J22 hb21 hF => ?_) (fun J22 hb21 hF => ?_) (fun v23 hF => ?_)
   ·refine Sx rfl rfl hb21 (Ml rfl (Sn (Sx rfl rfl hb21 (S_ix rfl rfl ty_sl_22 ty_sz_5 hF (fun x24 _ hF => Sn (Sx rfl rfl hb21 (S_ldQ rfl (p_one ty_ag_5 ty_sz_5 rfl) (Sn (Sx rfl rfl hb21 (S_bin rfl rfl (ev_eql ..) (Sn (S_pickT (v := .bool _) rfl hb21 rfl (Sn ?_)))))))))))))
    refine ⟨_, hF, .hd (.refl _) ?_⟩
    repeat first | with_reducible exact .refl _ | refine .add ?_ rfl | exact .refl _
   ·refine So rfl rfl hb21 (So rfl rfl hb21 (So rfl rfl hb21 (So rfl rfl hb21 (S_pickF (v := .bool _) rfl hb21 rfl (Sn ?_)))))
    refine ⟨_, hF, .hd (.refl _) ?_⟩
    repeat first | with_reducible exact .refl _ | refine .add ?_ rfl | exact .refl _
   ·refine Mb rfl ?_
    refine S_twoJ 5 23 hF (fun J26 hb25 hF => ?_) (fun J26 hb25 hF => ?_) (fun v27 hF => ?_)
    ·refine Sx rfl rfl hb25 (Ml rfl (Sn (Sx rfl rfl hb25 (S_ix rfl rfl ty_sl_22 ty_sz_5 hF (fun x28 _ hF => Sn (Sx rfl rfl hb25 (S_ldQ rfl (p_one ty_ag_5 ty_sz_5 rfl) (Sn (Sx rfl rfl hb25 (S_bin rfl rfl (ev_eql ..) (Sn (S_pickT (v := .bool _) rfl hb25 rfl (Sn ?_)))))))))))))
     refine ⟨_, hF, .hd (.refl _) ?_⟩
     repeat first | with_reducible exact .refl _ | refine .add ?_ rfl | exact .refl _
    ·refine So rfl rfl hb25 (So rfl rfl hb25 (So rfl rfl hb25 (So rfl rfl hb25 (S_pickF (v := .bool _) rfl hb25 rfl (Sn ?_)))))
     refine ⟨_, hF, .hd (.refl _) ?_⟩
     repeat first | with_reducible exact .refl _ | refine .add ?_ rfl | exact .refl _
    ·refine Sn ?_
     refine C_if (b := v27) rfl hF (fun hb29 hF => ?_) (fun hb29 hF => ?_)
     ·refine C_reg (mdl []) (Ml rfl (S_slL rfl ty_sl_22 ty_sz_5 (bd_at rfl) bd_len hF (fun x30 _ hF => S_a (v := .sl _ _ _) rfl (Sn ?_))))
      exact ⟨x30, hF, ok, WS.mk' (.k .nil) ok (.refl _)⟩
     ·refine WP_skip ?_
      exact ⟨p0, hF, ok, WS.mk' (.k .nil) ok (.refl _)⟩
 ·rintro a15 s' hF ⟨ok, hws⟩
  refine WP_ws hws ?_
  clear hws s'
  refine CR (Ml rfl (S_call (Fa_Lines_ok _ hF fun x31 _ hF => (S_conv rfl (e_cbs ty_sl_22 ty_ki_5 ty_st_9) (S_a (v := .str _) rfl (Sn (WP_ret ?_))))) (.refl _)))
  with_reducible repeat first | apply Exit.sr | apply Exit.br | apply Exit.jr
  refine C_ret (fn := Tryz.f10) rfl (.tmp (v := .str x31) rfl .nil) ?_
  exact ⟨_, _, (.refl _), ok.wh, _, F_some hF, rfl, rfl⟩
theorem Fc_Text_ok {β : Type} {f : LB → Option β} {G : β → Prop} {R : D → Heap → Prop} {p0 : LB} (h : Heap) (hF : OptP ((Fc_Text p0).bind f) G) (hk : ∀ r, Fc_Text p0 = some r → OptP (f r) G → R (.str r) h) : CallsA Tryz.prog 10 [.sl 1 (List.map c_u8 p0) 0] h R := by
 obtain ⟨r0, hr, hF⟩ := F_bind hF
 refine (Fc_Text_w (G := fun r => r = r0) p0 h ⟨r0, hr, rfl⟩).mono ?_
 rintro _ _ ⟨r, rfl, rfl, rfl⟩
 exact hk _ hr hF
theorem Fa_Read_w (p0 : LB) (p1 : Int) {G : Int × Int → Prop} (h : Heap) (hF : OptP (Fa_Read p0 p1) G) : CallsA Tryz.prog 32 [.sl 1 (List.map c_u8 p0) 0, .I p1] h fun d h' => ∃ r, G r ∧ d = .tup [.I r.1, .I r.2] ∧ h' = h := by
 refine CallsA.ret (C_body Tryz.func32 rfl en_32 Tryz.ntmps32 rfl (fun ok => ?_))
 rw [Fa_Read] at hF
 refine CR (Ai rfl (Ai rfl (Sn (CR (Ml rfl (Mi rfl (S_ix rfl rfl ty_sl_22 ty_sz_5 hF (fun x1 _ hF => S_ldQ rfl (p_one ty_ag_5 ty_sz_5 rfl) (S_conv rfl (e_ci ty_ki_3 ty_un_5) (Ai rfl (Sn (CR (Mi rfl (Ai rfl (Ai rfl (Ai rfl (Sn ?_)))))))))))))))))
 refine C_join hF (fun (v : Int × Int × Int) s' => match v with | (a9, a10, a11) => OK h [] ∧ WS s' ⟨mkSl 95 [(0, .sl 1 (List.map c_u8 p0) 0), (1, .I p1), (7, .I a9), (8, .I a10), (9, .I a11)], Hp h []⟩) (fun J12 hF => ?_) ?_
 ·refine WP_block (CR (Mi rfl (S_bin rfl rfl (ev_lss ..) (Ab rfl (Sn ?_)))))
  refine C_if (b := (decide ((IntKind.wrap .i64 (x1.toNat : Int)) < (128 : Int)))) rfl hF (fun hb13 hF => ?_) (fun hb13 hF => ?_)
  ·refine CR (Mi rfl (Ai rfl (Ai rfl (Sn (WP_ret ?_)))))
   with_reducible repeat first | apply Exit.sr | apply Exit.br | apply Exit.jr
   refine C_ret (fn := Tryz.f32) rfl (.tmp (v := .I (IntKind.wrap .i64 (x1.toNat : Int))) rfl (.tmp (v := .I 1) rfl .nil)) ?_
   exact ⟨_, _, (.refl _), ok.wh, _, F_some hF, rfl, rfl⟩
  ·refine CR (Mi rfl (S_bin rfl rfl (ev_geq ..) (Mb rfl ?_)))
   refine S_two (b := (decide ((192 : Int) ≤ (IntKind.wrap .i64 (x1.toNat : Int))))) 3 28 (.bool ((decide ((192 : Int) ≤ (IntKind.wrap .i64 (x1.toNat : Int)))) && (decide ((IntKind.wrap .i64 (x1.toNat : Int)) < (224 : Int))))) (fun hb14 => ?_) (fun hb14 => ?_) ?_
   ·refine Sx rfl rfl hb14 (Mi rfl (Sn (Sx rfl rfl hb14 (S_bin rfl rfl (ev_lss ..) (Sn (S_pickT (v := .bool _) rfl hb14 rfl (Sn (.hd (and_t hb14) ?_))))))))
    repeat first | with_reducible exact .refl _ | refine .add ?_ rfl | exact .refl _
   ·refine So rfl rfl hb14 (So rfl rfl hb14 (S_pickF (v := .bool _) rfl hb14 rfl (Sn (.hd (and_f hb14) ?_))))
    repeat first | with_reducible exact .refl _ | refine .add ?_ rfl | exact .refl _
   refine Ab rfl (Sn ?_)
   refine C_if (b := ((decide ((192 : Int) ≤ (IntKind.wrap .i64 (x1.toNat : Int)))) && (decide ((IntKind.wrap .i64 (x1.toNat : Int)) < (224 : Int))))) rfl hF (fun hb15 hF => ?_) (fun hb15 hF => ?_)
   ·refine C_reg (mdl []) (Mi rfl (S_bin rfl rfl (ev_sub ..) (Ai rfl (Ai rfl (Ai rfl (Sn ?_))))))
    exact ⟨((2 : Int), (IntKind.wrap .i64 ((IntKind.wrap .i64 (x1.toNat : Int)) - (192 : Int))), (128 : Int)), hF, ok, WS.mk' (.k (.k (.k (.k (.k .nil))))) ok (.refl _)⟩
   ·refine CR (Mi rfl (S_bin rfl rfl (ev_geq ..) (Mb rfl ?_)))
    refine S_two (b := (decide ((224 : Int) ≤ (IntKind.wrap .i64 (x1.toNat : Int))))) 3 37 (.bool ((decide ((224 : Int) ≤ (IntKind.wrap .i64 (x1.toNat : Int)))) && (decide ((IntKind.wrap .i64 (x1.toNat : Int)) < (240 : Int))))) (fun hb16 => ?_) (fun hb16 => ?_) ?_
    ·refine Sx rfl rfl hb16 (Mi rfl (Sn (Sx rfl rfl hb16 (S_bin rfl rfl (ev_lss ..) (Sn (S_pickT (v := .bool _) rfl hb16 rfl (Sn (.hd (and_t hb16) ?_))))))))
     repeat first | with_reducible exact .refl _ | refine .add ?_ rfl | exact .refl _
    ·refine So rfl rfl hb16 (So rfl rfl hb16 (S_pickF (v := .bool _) rfl hb16 rfl (Sn (.hd (and_f hb16) ?_))))
     repeat first | with_reducible exact .refl _ | refine .add ?_ rfl | exact .refl _
    refine Ab rfl (Sn ?_)
    refine C_if (b := ((decide ((224 : Int) ≤ (IntKind.wrap .i64 (x1.toNat : Int)))) && (decide ((IntKind.wrap .i64 (x1.toNat : Int)) < (240 : Int))))) rfl hF (fun hb17 hF => ?_) (fun hb17 hF => ?_)
    ·refine C_reg (mdl []) (Mi rfl (S_bin rfl rfl (ev_sub ..) (Ai rfl (Ai rfl (Ai rfl (Sn ?_))))))
     exact ⟨((3 : Int), (IntKind.wrap .i64 ((IntKind.wrap .i64 (x1.toNat : Int)) - (224 : Int))), (2048 : Int)), hF, ok, WS.mk' (.k (.k (.k (.k (.k .nil))))) ok (.refl _)⟩
    ·refine CR (Mi rfl (S_bin rfl rfl (ev_geq ..) (Mb rfl ?_)))
     refine S_two (b := (decide ((240 : Int) ≤ (IntKind.wrap .i64 (x1.toNat : Int))))) 3 46 (.bool ((decide ((240 : Int) ≤ (IntKind.wrap .i64 (x1.toNat : Int)))) && (decide ((IntKind.wrap .i64 (x1.toNat : Int)) < (248 : Int))))) (fun hb18 => ?_) (fun hb18 => ?_) ?_
     ·refine Sx rfl rfl hb18 (Mi rfl (Sn (Sx rfl rfl hb18 (S_bin rfl rfl (ev_lss ..) (Sn (S_pickT (v := .bool _) rfl hb18 rfl (Sn (.hd (and_t hb18) ?_))))))))
      repeat first | with_reducible exact .refl _ | refine .add ?_ rfl | exact .refl _
     ·refine So rfl rfl hb18 (So rfl rfl hb18 (S_pickF (v := .bool _) rfl hb18 rfl (Sn (.hd (and_f hb18) ?_))))
      repeat first | with_reducible exact .refl _ | refine .add ?_ rfl | exact .refl _
     refine Ab rfl (Sn ?_)
     refine C_if (b := ((decide ((240 : Int) ≤ (IntKind.wrap .i64 (x1.toNat : Int)))) && (decide ((IntKind.wrap .i64 (x1.toNat : Int)) < (248 : Int))))) rfl hF (fun hb19 hF => ?_) (fun hb19 hF => ?_)
     ·refine C_reg (mdl []) (Mi rfl (S_bin rfl rfl (ev_sub ..) (Ai rfl (Ai rfl (Ai rfl (Sn ?_))))))
      exact ⟨((4 : Int), (IntKind.wrap .i64 ((IntKind.wrap .i64 (x1.toNat : Int)) - (240 : Int))), (65536 : Int)), hF, ok, WS.mk' (.k (.k (.k (.k (.k .nil))))) ok (.refl _)⟩
     ·refine CR (Ai rfl (Ai rfl (Sn (WP_ret ?_))))
      with_reducible repeat first | apply Exit.sr | apply Exit.br | apply Exit.jr
      refine C_ret (fn := Tryz.f32) rfl (.tmp (v := .I 0) rfl (.tmp (v := .I 0) rfl .nil)) ?_
      exact ⟨_, _, (.refl _), ok.wh, _, F_some hF, rfl, rfl⟩
 ·rintro ⟨a9, a10, a11⟩ s' hF ⟨ok, hws⟩
  refine WP_ws hws ?_
  clear hws s'
  refine C_seq (CR (Mi rfl (Mi rfl (S_bin rfl rfl (ev_add ..) (Ml rfl (S_lenL rfl ty_sl_22 (S_bin rfl rfl (ev_gtr ..) (Sn ?_))))))))
  refine C_if (b := (decide ((p0.length : Int) < (IntKind.wrap .i64 (p1 + a9))))) rfl hF (fun hb20 hF => ?_) (fun hb20 hF => ?_)
  ·refine CR (Ai rfl (Ai rfl (Sn (WP_ret ?_))))
   with_reducible repeat first | apply Exit.sr | apply Exit.br | apply Exit.jr
   refine C_ret (fn := Tryz.f32) rfl (.tmp (v := .I 0) rfl (.tmp (v := .I 0) rfl .nil)) ?_
   exact ⟨_, _, (.refl _), ok.wh, _, F_some hF, rfl, rfl⟩
  ·refine WP_skip ?_
   refine C_join hF (fun (a27 : Int) s' => OK h [] ∧ WS s' ⟨mkSl 95 [(7, .I a9), (8, .I a27), (9, .I a11)], Hp h []⟩) (fun J28 hF => ?_) ?_
   ·refine CR (Ai rfl (Sn (WP_block ?_)))
    refine C_loop (σ := Int × Int) hF (fun (v : Int × Int) s' => match v with | (a29, a30) => OK h [] ∧ WS s' ⟨mkSl 95 [(0, .sl 1 (List.map c_u8 p0) 0), (1, .I p1), (7, .I a9), (8, .I a29), (9, .I a11), (10, .I a30)], Hp h []⟩) ?_ ?_
    ·exact ⟨ok, WS.mk' (.k (.k (.k (.k (.k (.k .nil)))))) ok (.refl _)⟩
    ·rintro G31 hG32 rec33 ⟨a29, a30⟩ s' ih34 hF ⟨ok, hws⟩
     refine WP_ws hws ?_
     clear hws s'
     rw [Fa_Read_l0] at hF
     refine C_seq (CR (Mi rfl (Mi rfl (S_bin rfl rfl (ev_lss ..) (Sn ?_)))))
     refine C_if (b := (decide (a30 < a9))) rfl hF (fun hb35 hF => ?_) (fun hb35 hF => ?_)
     ·refine WP_skip (C_seq (WP_block (CR (Ml rfl (Mi rfl (Mi rfl (S_bin rfl rfl (ev_add ..) (S_ix rfl rfl ty_sl_22 ty_sz_5 hF (fun x36 _ hF => S_ldQ rfl (p_one ty_ag_5 ty_sz_5 rfl) (S_conv rfl (e_ci ty_ki_3 ty_un_5) (Ai rfl (Sn (C_seq (CR (Mi rfl (S_bin rfl rfl (ev_lss ..) (Mb rfl ?_)))))))))))))))))
      refine S_two (b := (decide ((IntKind.wrap .i64 (x36.toNat : Int)) < (128 : Int)))) 3 72 (.bool ((decide ((IntKind.wrap .i64 (x36.toNat : Int)) < (128 : Int))) || (decide ((191 : Int) < (IntKind.wrap .i64 (x36.toNat : Int)))))) (fun hb37 => ?_) (fun hb37 => ?_) ?_
      ·refine So rfl rfl hb37 (So rfl rfl hb37 (S_pickT (v := .bool _) rfl hb37 rfl (Sn (.hd (or_t hb37) ?_))))
       repeat first | with_reducible exact .refl _ | refine .add ?_ rfl | exact .refl _
      ·refine Sx rfl rfl hb37 (Mi rfl (Sn (Sx rfl rfl hb37 (S_bin rfl rfl (ev_gtr ..) (Sn (S_pickF (v := .bool _) rfl hb37 rfl (Sn (.hd (or_f hb37) ?_))))))))
       repeat first | with_reducible exact .refl _ | refine .add ?_ rfl | exact .refl _
      refine Sn ?_
      refine C_if (b := ((decide ((IntKind.wrap .i64 (x36.toNat : Int)) < (128 : Int))) || (decide ((191 : Int) < (IntKind.wrap .i64 (x36.toNat : Int)))))) rfl hF (fun hb38 hF => ?_) (fun hb38 hF => ?_)
      ·refine CR (Ai rfl (Ai rfl (Sn (WP_ret ?_))))
       replace hF := hG32 _ (F_some hF)
       with_reducible repeat first | apply Exit.sr | apply Exit.br | apply Exit.jr
       refine C_ret (fn := Tryz.f32) rfl (.tmp (v := .I 0) rfl (.tmp (v := .I 0) rfl .nil)) ?_
       exact ⟨_, _, (.refl _), ok.wh, _, F_some hF, rfl, rfl⟩
      ·refine WP_skip (C_reg (mdl []) (Mi rfl (S_bin rfl rfl (ev_mul ..) (Mi rfl (S_bin rfl rfl (ev_add ..) (S_bin rfl rfl (ev_sub ..) (Ai rfl (Sn (C_reg (mdl []) (Mi rfl (S_bin rfl rfl (ev_add ..) (Ai rfl (Sn (ih34 ((IntKind.wrap .i64 ((IntKind.wrap .i64 ((IntKind.wrap .i64 ((64 : Int) * a29)) + (IntKind.wrap .i64 (x36.toNat : Int)))) - (128 : Int))), (IntKind.wrap .i64 (a30 + (1 : Int)))) _ hF ?_))))))))))))))
       exact ⟨ok, WS.mk' (.k (.k (.k (.k (.k (.k .nil)))))) ok (.refl _)⟩
     ·refine WP_exit ?_
      simp only [Exit.sel, Exit.blk, Exit.jmp, if_true, if_false, reduceIte, Nat.reduceEqDiff, Nat.succ_ne_zero, Nat.zero_ne_one, Nat.one_ne_zero]
      replace hF := hG32 _ (F_some hF)
      exact ⟨a29, hF, ok, WS.mk' (.k (.k (.k .nil))) ok (.refl _)⟩
   ·rintro a27 s' hF ⟨ok, hws⟩
    refine WP_ws hws ?_
    clear hws s'
    refine C_seq (CR (Mi rfl (Mi rfl (S_bin rfl rfl (ev_lss ..) (Mb rfl ?_)))))
    refine S_two (b := (decide (a27 < a11))) 3 84 (.bool ((decide (a27 < a11)) || (decide ((1114111 : Int) < a27)))) (fun hb39 => ?_) (fun hb39 => ?_) ?_
    ·refine So rfl rfl hb39 (So rfl rfl hb39 (S_pickT (v := .bool _) rfl hb39 rfl (Sn (.hd (or_t hb39) ?_))))
     repeat first | with_reducible exact .refl _ | refine .add ?_ rfl | exact .refl _
    ·refine Sx rfl rfl hb39 (Mi rfl (Sn (Sx rfl rfl hb39 (S_bin rfl rfl (ev_gtr ..) (Sn (S_pickF (v := .bool _) rfl hb39 rfl (Sn (.hd (or_f hb39) ?_))))))))
     repeat first | with_reducible exact .refl _ | refine .add ?_ rfl | exact .refl _
    refine Mb rfl ?_
    refine S_two (b := ((decide (a27 < a11)) || (decide ((1114111 : Int) < a27)))) 7 92 (.bool (((decide (a27 < a11)) || (decide ((1114111 : Int) < a27))) || ((decide ((55296 : Int) ≤ a27)) && (decide (a27 ≤ (57343 : Int)))))) (fun hb40 => ?_) (fun hb40 => ?_) ?_
    ·refine So rfl rfl hb40 (So rfl rfl hb40 (So rfl rfl hb40 (S_off2 rfl rfl (S_offD (S_off2 rfl rfl (S_offD (So rfl rfl hb40 (S_pickT (v := .bool _) rfl hb40 rfl (Sn (.hd (or_t hb40) ?_))))))))))
     repeat first | with_reducible exact .refl _ | refine .add ?_ rfl | exact .refl _
    ·refine Sx rfl rfl hb40 (Mi rfl (Sn (Sx rfl rfl hb40 (S_bin rfl rfl (ev_geq ..) (Sn (Sx rfl rfl hb40 (Mb rfl (Sn ?_))))))))
     refine S_two (b := (decide ((55296 : Int) ≤ a27))) 3 91 (.bool ((decide ((55296 : Int) ≤ a27)) && (decide (a27 ≤ (57343 : Int))))) (fun hb42 => ?_) (fun hb42 => ?_) ?_
     ·refine Sx rfl rfl hb42 (Mi rfl (Sn (Sx rfl rfl hb42 (S_bin rfl rfl (ev_leq ..) (Sn (Sx rfl rfl hb40 (S_pickT (v := .bool _) rfl hb42 rfl (Sn (Sn (.hd (and_t hb42) ?_))))))))))
      repeat first | with_reducible exact .refl _ | refine .add ?_ rfl | exact .refl _
     ·refine So rfl rfl hb42 (So rfl rfl hb42 (Sx rfl rfl hb40 (S_pickF (v := .bool _) rfl hb42 rfl (Sn (Sn (.hd (and_f hb42) ?_))))))
      repeat first | with_reducible exact .refl _ | refine .add ?_ rfl | exact .refl _
     refine S_pickF (v := .bool _) rfl hb40 rfl (Sn (.hd (or_f hb40) ?_))
     repeat first | with_reducible exact .refl _ | refine .add ?_ rfl | exact .refl _
    refine Sn ?_
    refine C_if (b := (((decide (a27 < a11)) || (decide ((1114111 : Int) < a27))) || ((decide ((55296 : Int) ≤ a27)) && (decide (a27 ≤ (57343 : Int)))))) rfl hF (fun hb43 hF => ?_) (fun hb43 hF => ?_)
    ·refine CR (Ai rfl (Ai rfl (Sn (WP_ret ?_))))
     with_reducible repeat first | apply Exit.sr | apply Exit.br | apply Exit.jr
     refine C_ret (fn := Tryz.f32) rfl (.tmp (v := .I 0) rfl (.tmp (v := .I 0) rfl .nil)) ?_
     exact ⟨_, _, (.refl _), ok.wh, _, F_some hF, rfl, rfl⟩
    ·refine WP_skip (CR (Mi rfl (Mi rfl (Ai rfl (Ai rfl (Sn (WP_ret ?_)))))))
     with_reducible repeat first | apply Exit.sr | apply Exit.br | apply Exit.jr
     refine C_ret (fn := Tryz.f32) rfl (.tmp (v := .I a27) rfl (.tmp (v := .I a9) rfl .nil)) ?_
     exact ⟨_, _, (.refl _), ok.wh, _, F_some hF, rfl, rfl⟩
theorem Fa_Read_ok {β : Type} {f : Int × Int → Option β} {G : β → Prop} {R : D → Heap → Prop} {p0 : LB} {p1 : Int} (h : Heap) (hF : OptP ((Fa_Read p0 p1).bind f) G) (hk : ∀ r, Fa_Read p0 p1 = some r → OptP (f r) G → R (.tup [.I r.1, .I r.2]) h) : CallsA Tryz.prog 32 [.sl 1 (List.map c_u8 p0) 0, .I p1] h R := by
 obtain ⟨r0, hr, hF⟩ := F_bind hF
 refine (Fa_Read_w (G := fun r => r = r0) p0 p1 h ⟨r0, hr, rfl⟩).mono ?_
 rintro _ _ ⟨r, rfl, rfl, rfl⟩
 exact hk _ hr hF
end Go.Proofs.YtfokkdofcekdbaaGreatDoor
