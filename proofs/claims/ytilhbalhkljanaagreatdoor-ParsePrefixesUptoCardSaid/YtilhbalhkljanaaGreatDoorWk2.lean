/- The walks. No condition. -/
import Derived.Test.YtilhbalhkljanaaGreatDoorWs
import Derived.Test.YtilhbalhkljanaaGreatDoorWk1
set_option linter.unusedVariables false
set_option linter.unusedSimpArgs false
set_option maxRecDepth 20000
set_option maxHeartbeats 8000000
namespace Go.Proofs.YtilhbalhkljanaaGreatDoor
theorem F_scan_scanner_token_w (p0 : TS) (p1 : TK) (q0 : Nat) (q1 : Nat) (b1_3 : Nat) {G : Int × TS × TK → Prop} (h : Heap) (O : List (Nat × AObj)) (hq0 : q0 ≠ 0) (hq1 : q1 ≠ 0) (zb1_3 : b1_3 = 0 → p1.Pairs = []) (ok : OK h ((cSc q0 p0) :: (cTk q1 b1_3 p1) :: mo b1_3 cP p1.Pairs :: O)) (hF : OptP (F_scan_scanner_token p0 p1) G) : CallsA Tryz.prog 48 [.ptr q0 0, .ptr q1 0] (Hp h ((cSc q0 p0) :: (cTk q1 b1_3 p1) :: mo b1_3 cP p1.Pairs :: O)) fun d h' => ∃ r, G r ∧ d = .I r.1 ∧ ∃ b1_3' : Nat, (b1_3' = 0 → r.2.2.Pairs = []) ∧ OK h ((cSc q0 r.2.1) :: (cTk q1 b1_3' r.2.2) :: mo b1_3' cP r.2.2.Pairs :: O) ∧ h' = Hp h ((cSc q0 r.2.1) :: (cTk q1 b1_3' r.2.2) :: mo b1_3' cP r.2.2.Pairs :: O) := by
  refine CallsA.ret (C_bodyO Tryz.func48 rfl en_48 Tryz.ntmps48 rfl ?_)
  rw [F_scan_scanner_token] at hF
  refine CR (Ai rfl (Sn (C_seq (WP_block (CR (Mp rfl (S_nilc (v := .ptr _ _) rfl rfl (S_faP rfl ty_fd_95_1 ty_sz_3 (S_ldP (j := 0) ok rfl rfl rfl hq0 (p_one (v := .I p0.at_) ty_ag_3 ty_sz_3 rfl) (S_bin rfl rfl (ev_eql ..) (Mb rfl ?_)))))))))))
  refine S_twoJ 3 15 hF (fun J2 hb1 hF => ?_) (fun J2 hb1 hF => ?_) (fun v3 hF => ?_)
  · refine Sx rfl rfl hb1 (Mp rfl (Sn (Sx rfl rfl hb1 (S_call (F_scan_scanner_here_ok (p0 := p0) (q0 := q0) h _ hq0 ok hF fun x4 _  ok hF => (Sn (S_pickT (v := .bool _) rfl hb1 rfl (Sn ?_)))) (.refl _)))))
    refine ⟨_, hF, .hd (.refl _) ?_⟩
    repeat first | with_reducible exact .refl _ | refine .add ?_ rfl | exact .refl _
  · refine So rfl rfl hb1 (So rfl rfl hb1 (S_pickF (v := .bool _) rfl hb1 rfl (Sn ?_)))
    refine ⟨_, hF, .hd (.refl _) ?_⟩
    repeat first | with_reducible exact .refl _ | refine .add ?_ rfl | exact .refl _
  · refine Mb rfl ?_
    refine S_twoJ 4 20 hF (fun J6 hb5 hF => ?_) (fun J6 hb5 hF => ?_) (fun v7 hF => ?_)
    · refine Sx rfl rfl hb5 (Mp rfl (Sn (Sx rfl rfl hb5 (S_call (F_scan_scanner_spaces_ok (p0 := p0) (q0 := q0) h _ hq0 ok hF fun x8 _  ok hF => (Sn (Sx rfl rfl hb5 (S_bin rfl rfl (ev_gtr ..) (Sn (S_pickT (v := .bool _) rfl hb5 rfl (Sn ?_))))))) (.refl _)))))
      refine ⟨_, hF, .hd (.refl _) ?_⟩
      repeat first | with_reducible exact .refl _ | refine .add ?_ rfl | exact .refl _
    · refine So rfl rfl hb5 (So rfl rfl hb5 (So rfl rfl hb5 (S_pickF (v := .bool _) rfl hb5 rfl (Sn ?_))))
      refine ⟨_, hF, .hd (.refl _) ?_⟩
      repeat first | with_reducible exact .refl _ | refine .add ?_ rfl | exact .refl _
    · refine Ab rfl (Sn ?_)
      refine C_if (b := v7) rfl hF (fun hb9 hF => ?_) (fun hb9 hF => ?_)
      · refine CR (Mp rfl (Mp rfl ?_))
        obtain ⟨hpe, ok⟩ := Hp_pull 2 ok rfl
        rw [hpe]; clear hpe
        obtain ⟨hpe, ok⟩ := Hp_pull 2 ok rfl
        rw [hpe]; clear hpe
        obtain ⟨hpe, ok⟩ := Hp_pull 2 ok rfl
        rw [hpe]; clear hpe
        refine S_call (F_scan_scanner_decl_ok (p0 := p0) (p1 := p1) (q0 := q0) (q1 := q1) (b1_3 := b1_3) h _ hq0 hq1 zb1_3 ok hF fun x10 u11 _ zu11 ok hF => (Ai rfl (Sn (WP_ret ?_)))) (.refl _)
        with_reducible repeat first | apply Exit.sr | apply Exit.br | apply Exit.jr
        refine C_ret (fn := Tryz.f48) rfl (.tmp (v := .I x10.1) rfl .nil) ?_
        exact ⟨_, _, (.refl _), .refl _, _, F_some hF, rfl, u11, zu11, ok, rfl⟩
      · refine CR (Mp rfl (S_call (F_scan_scanner_here_ok (p0 := p0) (q0 := q0) h _ hq0 ok hF fun x12 _  ok hF => (Ab rfl (Sn ?_))) (.refl _)))
        refine C_if (b := x12) rfl hF (fun hb13 hF => ?_) (fun hb13 hF => ?_)
        · refine CR (Mp rfl (S_nilc (v := .ptr _ _) rfl rfl (S_faP rfl ty_fd_66_0 ty_sz_3 (S_st (j := 1) (cs' := [.I 7, .I p1.At, .str p1.Name, mslO 2 b1_3 p1.Pairs, .str p1.Text, .I p1.Refs]) ok rfl rfl rfl hq1 rfl ty_sz_3 rfl rfl (fun ok => Sn (C_seq (CR (Mp rfl (Mp rfl ?_)))))))))
          obtain ⟨hpe, ok⟩ := Hp_pull 2 ok rfl
          rw [hpe]; clear hpe
          obtain ⟨hpe, ok⟩ := Hp_pull 2 ok rfl
          rw [hpe]; clear hpe
          obtain ⟨hpe, ok⟩ := Hp_pull 2 ok rfl
          rw [hpe]; clear hpe
          refine S_call (F_scan_scanner_upTo_ok (p0 := p0) (p1 := (⟨(7 : Int), p1.At, p1.Name, p1.Pairs, p1.Text, p1.Refs⟩ : TK)) (q0 := q0) (q1 := q1) (b1_3 := b1_3) h _ hq0 hq1 zb1_3 ok hF fun x14 u15 _ zu15 ok hF => (Ai rfl (Sn (CR (Mi rfl (S_bin rfl rfl (ev_neq ..) (Sn ?_))))))) (.refl _)
          refine C_if (b := (x14.1 != (0 : Int))) rfl hF (fun hb16 hF => ?_) (fun hb16 hF => ?_)
          · refine CR (Mi rfl (Ai rfl (Sn (WP_ret ?_))))
            with_reducible repeat first | apply Exit.sr | apply Exit.br | apply Exit.jr
            refine C_ret (fn := Tryz.f48) rfl (.tmp (v := .I x14.1) rfl .nil) ?_
            exact ⟨_, _, (.refl _), .refl _, _, F_some hF, rfl, u15, zu15, ok, rfl⟩
          · refine WP_skip (CR (Mp rfl (S_call (F_scan_scanner_sign_ok (p0 := x14.2.1) (q0 := q0) h _ hq0 ok hF fun x17 _  ok hF => (Ai rfl (Sn (WP_ret ?_)))) (.refl _))))
            with_reducible repeat first | apply Exit.sr | apply Exit.br | apply Exit.jr
            refine C_ret (fn := Tryz.f48) rfl (.tmp (v := .I x17.1) rfl .nil) ?_
            exact ⟨_, _, (.refl _), .refl _, _, F_some hF, rfl, u15, zu15, ok, rfl⟩
        · refine CR (Mp rfl (S_call (F_scan_scanner_here_ok (p0 := p0) (q0 := q0) h _ hq0 ok hF fun x18 _  ok hF => (Ab rfl (Sn ?_))) (.refl _)))
          refine C_if (b := x18) rfl hF (fun hb19 hF => ?_) (fun hb19 hF => ?_)
          · refine CR (Mp rfl (S_nilc (v := .ptr _ _) rfl rfl (S_faP rfl ty_fd_66_0 ty_sz_3 (S_st (j := 1) (cs' := [.I 6, .I p1.At, .str p1.Name, mslO 2 b1_3 p1.Pairs, .str p1.Text, .I p1.Refs]) ok rfl rfl rfl hq1 rfl ty_sz_3 rfl rfl (fun ok => Sn (CR (Mp rfl (Mp rfl ?_))))))))
            obtain ⟨hpe, ok⟩ := Hp_pull 2 ok rfl
            rw [hpe]; clear hpe
            obtain ⟨hpe, ok⟩ := Hp_pull 2 ok rfl
            rw [hpe]; clear hpe
            obtain ⟨hpe, ok⟩ := Hp_pull 2 ok rfl
            rw [hpe]; clear hpe
            refine S_call (F_scan_scanner_upTo_ok (p0 := p0) (p1 := (⟨(6 : Int), p1.At, p1.Name, p1.Pairs, p1.Text, p1.Refs⟩ : TK)) (q0 := q0) (q1 := q1) (b1_3 := b1_3) h _ hq0 hq1 zb1_3 ok hF fun x20 u21 _ zu21 ok hF => (Ai rfl (Sn (WP_ret ?_)))) (.refl _)
            with_reducible repeat first | apply Exit.sr | apply Exit.br | apply Exit.jr
            refine C_ret (fn := Tryz.f48) rfl (.tmp (v := .I x20.1) rfl .nil) ?_
            exact ⟨_, _, (.refl _), .refl _, _, F_some hF, rfl, u21, zu21, ok, rfl⟩
          · refine CR (Mp rfl (S_call (F_scan_scanner_here_ok (p0 := p0) (q0 := q0) h _ hq0 ok hF fun x22 _  ok hF => (Ab rfl (Sn ?_))) (.refl _)))
            refine C_if (b := x22) rfl hF (fun hb23 hF => ?_) (fun hb23 hF => ?_)
            · refine CR (Ai rfl (Sn (WP_ret ?_)))
              with_reducible repeat first | apply Exit.sr | apply Exit.br | apply Exit.jr
              refine C_ret (fn := Tryz.f48) rfl (.tmp (v := .I 25) rfl .nil) ?_
              exact ⟨_, _, (.refl _), .refl _, _, F_some hF, rfl, b1_3, zb1_3, ok, rfl⟩
            · refine CR (Mp rfl (S_call (F_scan_scanner_here_ok (p0 := p0) (q0 := q0) h _ hq0 ok hF fun x24 _  ok hF => (Ab rfl (Sn ?_))) (.refl _)))
              refine C_if (b := x24) rfl hF (fun hb25 hF => ?_) (fun hb25 hF => ?_)
              · refine CR (Ai rfl (Sn (WP_ret ?_)))
                with_reducible repeat first | apply Exit.sr | apply Exit.br | apply Exit.jr
                refine C_ret (fn := Tryz.f48) rfl (.tmp (v := .I 23) rfl .nil) ?_
                exact ⟨_, _, (.refl _), .refl _, _, F_some hF, rfl, b1_3, zb1_3, ok, rfl⟩
              · refine CR (Mp rfl (S_call (F_scan_scanner_here_ok (p0 := p0) (q0 := q0) h _ hq0 ok hF fun x26 _  ok hF => (Ab rfl (Sn ?_))) (.refl _)))
                refine C_if (b := x26) rfl hF (fun hb27 hF => ?_) (fun hb27 hF => ?_)
                · refine CR (Mp rfl (Mp rfl ?_))
                  obtain ⟨hpe, ok⟩ := Hp_pull 2 ok rfl
                  rw [hpe]; clear hpe
                  obtain ⟨hpe, ok⟩ := Hp_pull 2 ok rfl
                  rw [hpe]; clear hpe
                  obtain ⟨hpe, ok⟩ := Hp_pull 2 ok rfl
                  rw [hpe]; clear hpe
                  refine S_call (F_scan_scanner_instr_ok (p0 := p0) (p1 := p1) (q0 := q0) (q1 := q1) (b1_3 := b1_3) h _ hq0 hq1 zb1_3 ok hF fun x28 u29 _ zu29 ok hF => (Ai rfl (Sn (WP_ret ?_)))) (.refl _)
                  with_reducible repeat first | apply Exit.sr | apply Exit.br | apply Exit.jr
                  refine C_ret (fn := Tryz.f48) rfl (.tmp (v := .I x28.1) rfl .nil) ?_
                  exact ⟨_, _, (.refl _), .refl _, _, F_some hF, rfl, u29, zu29, ok, rfl⟩
                · refine CR (Mp rfl (S_call (F_scan_scanner_here_ok (p0 := p0) (q0 := q0) h _ hq0 ok hF fun x30 _  ok hF => (Ab rfl (Sn ?_))) (.refl _)))
                  refine C_if (b := x30) rfl hF (fun hb31 hF => ?_) (fun hb31 hF => ?_)
                  · refine CR (Mp rfl (Mp rfl ?_))
                    obtain ⟨hpe, ok⟩ := Hp_pull 2 ok rfl
                    rw [hpe]; clear hpe
                    obtain ⟨hpe, ok⟩ := Hp_pull 2 ok rfl
                    rw [hpe]; clear hpe
                    obtain ⟨hpe, ok⟩ := Hp_pull 2 ok rfl
                    rw [hpe]; clear hpe
                    refine S_call (F_scan_scanner_closing_ok (p0 := p0) (p1 := p1) (q0 := q0) (q1 := q1) (b1_3 := b1_3) h _ hq0 hq1 zb1_3 ok hF fun x32 u33 _ zu33 ok hF => (Ai rfl (Sn (WP_ret ?_)))) (.refl _)
                    with_reducible repeat first | apply Exit.sr | apply Exit.br | apply Exit.jr
                    refine C_ret (fn := Tryz.f48) rfl (.tmp (v := .I x32.1) rfl .nil) ?_
                    exact ⟨_, _, (.refl _), .refl _, _, F_some hF, rfl, u33, zu33, ok, rfl⟩
                  · refine CR (Mp rfl (S_call (F_scan_scanner_here_ok (p0 := p0) (q0 := q0) h _ hq0 ok hF fun x34 _  ok hF => (Ab rfl (Sn ?_))) (.refl _)))
                    refine C_if (b := x34) rfl hF (fun hb35 hF => ?_) (fun hb35 hF => ?_)
                    · refine CR (Mp rfl (Mp rfl ?_))
                      obtain ⟨hpe, ok⟩ := Hp_pull 2 ok rfl
                      rw [hpe]; clear hpe
                      obtain ⟨hpe, ok⟩ := Hp_pull 2 ok rfl
                      rw [hpe]; clear hpe
                      obtain ⟨hpe, ok⟩ := Hp_pull 2 ok rfl
                      rw [hpe]; clear hpe
                      refine S_call (F_scan_scanner_tag_ok (p0 := p0) (p1 := p1) (q0 := q0) (q1 := q1) (b1_3 := b1_3) h _ hq0 hq1 zb1_3 ok hF fun x36 u37 _ zu37 ok hF => (Ai rfl (Sn (WP_ret ?_)))) (.refl _)
                      with_reducible repeat first | apply Exit.sr | apply Exit.br | apply Exit.jr
                      refine C_ret (fn := Tryz.f48) rfl (.tmp (v := .I x36.1) rfl .nil) ?_
                      exact ⟨_, _, (.refl _), .refl _, _, F_some hF, rfl, u37, zu37, ok, rfl⟩
                    · refine WP_skip (CR (Mp rfl (Mp rfl ?_)))
                      obtain ⟨hpe, ok⟩ := Hp_pull 2 ok rfl
                      rw [hpe]; clear hpe
                      obtain ⟨hpe, ok⟩ := Hp_pull 2 ok rfl
                      rw [hpe]; clear hpe
                      obtain ⟨hpe, ok⟩ := Hp_pull 2 ok rfl
                      rw [hpe]; clear hpe
                      refine S_call (F_scan_scanner_text_ok (p0 := p0) (p1 := p1) (q0 := q0) (q1 := q1) (b1_3 := b1_3) h _ hq0 hq1 zb1_3 ok hF fun x38 u39 _ zu39 ok hF => (Ai rfl (Sn (WP_ret ?_)))) (.refl _)
                      with_reducible repeat first | apply Exit.sr | apply Exit.br | apply Exit.jr
                      refine C_ret (fn := Tryz.f48) rfl (.tmp (v := .I x38.1) rfl .nil) ?_
                      exact ⟨_, _, (.refl _), .refl _, _, F_some hF, rfl, u39, zu39, ok, rfl⟩
theorem F_scan_scanner_token_ok {β : Type} {f0 : Int × TS × TK → Option β} {G : β → Prop} {R : D → Heap → Prop} {p0 : TS} {p1 : TK} {q0 : Nat} {q1 : Nat} {b1_3 : Nat} (h : Heap) (O : List (Nat × AObj)) (hq0 : q0 ≠ 0) (hq1 : q1 ≠ 0) (zb1_3 : b1_3 = 0 → p1.Pairs = []) (ok : OK h ((cSc q0 p0) :: (cTk q1 b1_3 p1) :: mo b1_3 cP p1.Pairs :: O)) (hF : OptP ((F_scan_scanner_token p0 p1).bind f0) G) (hk : ∀ r b1_3', F_scan_scanner_token p0 p1 = some r → (b1_3' = 0 → r.2.2.Pairs = []) → OK h ((cSc q0 r.2.1) :: (cTk q1 b1_3' r.2.2) :: mo b1_3' cP r.2.2.Pairs :: O) → OptP (f0 r) G → R (.I r.1) (Hp h ((cSc q0 r.2.1) :: (cTk q1 b1_3' r.2.2) :: mo b1_3' cP r.2.2.Pairs :: O))) : CallsA Tryz.prog 48 [.ptr q0 0, .ptr q1 0] (Hp h ((cSc q0 p0) :: (cTk q1 b1_3 p1) :: mo b1_3 cP p1.Pairs :: O)) R := by
  obtain ⟨r0, hr, hF⟩ := F_bind hF
  refine (F_scan_scanner_token_w (G := fun r => r = r0) p0 p1 q0 q1 b1_3 h O hq0 hq1 zb1_3 ok ⟨r0, hr, rfl⟩).mono ?_
  rintro _ _ ⟨r, rfl, rfl, b1_3', y0, ok', rfl⟩
  exact hk _ _ hr y0 ok' hF
theorem F_scan_All_w (p0 : LB) {G : (List TK) × Int × Int → Prop} (h : Heap) (hF : OptP (F_scan_All p0) G) : CallsA Tryz.prog 22 [.sl 1 (List.map c_u8 p0) 0] h fun d h' => ∃ r, G r ∧ d = .tup [.sl 6 (List.map cTK r.1) 0, .I r.2.1, .I r.2.2] ∧ h' = h := by
  refine CallsA.ret (C_body Tryz.func22 rfl en_22 Tryz.ntmps22 rfl (fun ok => ?_))
  rw [F_scan_All] at hF
  refine CR (S_a (v := .snil) rfl (S_one 2 (v := .sl 6 (List.map cTK ([] : List TK)) 0) (.nil _) (Ai rfl (Ai rfl (Sn (WP_scope (JW_step (C_seq (CR (Ml rfl (S_lenL rfl ty_sl_22 (S_bin rfl rfl (ev_gtr ..) (Sn ?_)))))))))))))
  refine C_if (b := (decide ((65536 : Int) < (p0.length : Int)))) rfl hF (fun hb1 hF => ?_) (fun hb1 hF => ?_)
  · refine CR (S_a (v := .snil) rfl (S_one 2 (v := .sl 6 (List.map cTK ([] : List TK)) 0) (.nil _) (Ai rfl (Ai rfl (Sn (WP_ret ?_))))))
    with_reducible repeat first | apply Exit.sr | apply Exit.br | apply Exit.jr
    refine C_ret (fn := Tryz.f22) rfl (.tmp (v := .sl 6 (List.map cTK ([] : List TK)) 0) rfl (.tmp (v := .I 0) rfl (.tmp (v := .I 6) rfl .nil))) ?_
    exact ⟨_, _, (.refl _), ok.wh, _, F_some hF, rfl, rfl⟩
  · refine WP_skip (C_seq (C_reg (mdl [(18, 1)]) (Ml rfl (S_call (F_scan_Plain_ok _ hF fun x2 _ hF => (S_bld (v := .agg (cTS (⟨x2, (0 : Int)⟩ : TS))) (b_st ty_zc_95 ty_pl_95 rfl) (S_box1 (cs := [.sl 1 (List.map c_u8 (⟨x2, (0 : Int)⟩ : TS).b) 0, .I (⟨x2, (0 : Int)⟩ : TS).at_]) ok rfl rfl rfl rfl ?_))) (.refl _)))))
    intro i3 hi3 ok
    refine S_a (v := .ptr _ _) rfl (Sn (C_seq (CR (Mp rfl (S_nilc (v := .ptr _ _) rfl rfl (S_faP rfl ty_fd_95_0 ty_sz_22 (S_ldP (j := 0) ok rfl rfl rfl hi3 (p_one (v := .sl 1 (List.map c_u8 (⟨x2, (0 : Int)⟩ : TS).b) 0) ty_ag_22 ty_sz_22 rfl) (S_call (F_char_Fault_ok _ hF fun x4 _ hF => (S_m (v := .tup _) rfl (S_ext rfl rfl (S_ext rfl rfl (Ai rfl (Ai rfl (Sn (CR (Mi rfl (S_bin rfl rfl (ev_neq ..) (Sn ?_))))))))))) (.refl _)))))))))
    refine C_if (b := (x4.2 != (0 : Int))) rfl hF (fun hb5 hF => ?_) (fun hb5 hF => ?_)
    · refine CR (Mi rfl (Mi rfl (S_a (v := .snil) rfl (S_one 2 (v := .sl 6 (List.map cTK ([] : List TK)) 0) (.nil _) (Ai rfl (Ai rfl (Sn (WP_ret ?_))))))))
      with_reducible repeat first | apply Exit.sr | apply Exit.br | apply Exit.jr
      refine C_ret (fn := Tryz.f22) rfl (.tmp (v := .sl 6 (List.map cTK ([] : List TK)) 0) rfl (.tmp (v := .I x4.1) rfl (.tmp (v := .I x4.2) rfl .nil))) ?_
      exact ⟨_, _, (.refl _), ok.wh, _, F_some hF, rfl, rfl⟩
    · refine WP_skip (CR (S_a (v := .snil) rfl (S_nilB cTK ok (fun ok => Sn (CR (Ai rfl (Sn (C_seq (WP_label ?_)))))))))
      refine C_gloop (σ := LB × Int × (List TK)) hF (fun (v : LB × Int × (List TK)) s' => match v with | (a7, a8, a10) => ∃ g9 : Nat, (g9 = 0 → a10 = []) ∧ OK h [mo g9 cTK a10, (i3, .cells [.sl 1 (List.map c_u8 a7) 0, .I a8])] ∧ WS s' ⟨mkSl 58 [(5, .ptr i3 0), (8, mslO 6 g9 a10)], Hp h [mo g9 cTK a10, (i3, .cells [.sl 1 (List.map c_u8 a7) 0, .I a8])]⟩) ?_ ?_
      · exact ⟨0, (fun _ => rfl), ok, WS.mk' (.k (.k .nil)) ok (.refl _)⟩
      · rintro G11 hG12 rec13 ⟨a7, a8, a10⟩ s' ih14 hF ⟨g9, zg9, ok, hws⟩
        refine WP_ws hws ?_
        clear hws s'
        rw [F_scan_All_l0] at hF
        refine C_seq (C_seq ?_)
        refine C_drw (mdl []) (by kernel_rfl) (by kernel_rfl) ?_
        refine Mp rfl (S_nilc (v := .ptr _ _) rfl rfl (S_faP rfl ty_fd_95_1 ty_sz_3 (S_ldP (j := 1) ok rfl rfl rfl hi3 (p_one (v := .I a8) ty_ag_3 ty_sz_3 rfl) (Mp rfl (S_nilc (v := .ptr _ _) rfl rfl (S_faP rfl ty_fd_95_0 ty_sz_22 (S_ldP (j := 1) ok rfl rfl rfl hi3 (p_one (v := .sl 1 (List.map c_u8 a7) 0) ty_ag_22 ty_sz_22 rfl) (S_lenL rfl ty_sl_22 (S_bin rfl rfl (ev_eql ..) (Sn ?_))))))))))
        refine C_if (b := (a8 == (a7.length : Int))) rfl hF (fun hb15 hF => ?_) (fun hb15 hF => ?_)
        · refine CR (S_m (v := mslO _ _ _) rfl (S_a (v := mslO _ _ _) rfl (S_frzO 0 2 ok zg9 rfl rfl (fun _ => rfl) (fun ok => Ai rfl (Ai rfl (Sn (WP_ret ?_)))))))
          replace hF := hG12 _ (F_some hF)
          with_reducible repeat first | apply Exit.sr | apply Exit.br | apply Exit.jr
          refine C_ret (fn := Tryz.f22) rfl (.tmp (v := .sl 6 (List.map cTK a10) 0) rfl (.tmp (v := .I 0) rfl (.tmp (v := .I 0) rfl .nil))) ?_
          exact ⟨_, _, (.refl _), ok.wh, _, F_some hF, rfl, rfl⟩
        · refine WP_skip (CR (Mp rfl (S_nilc (v := .ptr _ _) rfl rfl (S_faP rfl ty_fd_95_1 ty_sz_3 (S_ldP (j := 1) ok rfl rfl rfl hi3 (p_one (v := .I a8) ty_ag_3 ty_sz_3 rfl) (Ai rfl (Sn (C_seq (C_reg (mdl [(11, 1)]) (Mi rfl (S_bld (v := .agg [.I 0, .I a8, .str nB, .snil, .str nB, .I 0]) (b_st ty_zc_66 ty_pl_66 rfl) (S_all1 ok rfl ty_zc_66 ?_))))))))))))
          intro i17 hi17 ok
          refine S_nilB cP ok (fun ok => S_st (j := 1) (cs' := [.I 0, .I a8, .str nB, .snil, .str nB, .I 0]) ok rfl rfl rfl hi17 rfl ty_sz_66 rfl rfl (fun ok => S_nilB cP ok (fun ok => Sn (CR (Mp rfl ?_)))))
          obtain ⟨hpe, ok⟩ := Hp_pull 2 ok rfl
          rw [hpe]; clear hpe
          obtain ⟨hpe, ok⟩ := Hp_pull 4 ok rfl
          rw [hpe]; clear hpe
          refine S_call (F_scan_scanner_token_ok (p0 := (⟨a7, a8⟩ : TS)) (p1 := (⟨(0 : Int), a8, nB, nP, nB, (0 : Int)⟩ : TK)) (q0 := i3) (q1 := i17) (b1_3 := 0) h [mo 0 cP nP, mo g9 cTK a10] hi3 hi17 (fun _ => rfl) ok hF fun x20 u21 _ zu21 ok hF => (Ai rfl (Sn (C_seq (CR (Mi rfl (S_bin rfl rfl (ev_neq ..) (Sn ?_)))))))) (.refl _)
          refine C_if (b := (x20.1 != (0 : Int))) rfl hF (fun hb22 hF => ?_) (fun hb22 hF => ?_)
          · refine CR (Mi rfl (Mi rfl (S_a (v := .snil) rfl (S_one 2 (v := .sl 6 (List.map cTK ([] : List TK)) 0) (.nil _) (Ai rfl (Ai rfl (Sn (WP_ret ?_))))))))
            replace hF := hG12 _ (F_some hF)
            with_reducible repeat first | apply Exit.sr | apply Exit.br | apply Exit.jr
            refine C_ret (fn := Tryz.f22) rfl (.tmp (v := .sl 6 (List.map cTK ([] : List TK)) 0) rfl (.tmp (v := .I a8) rfl (.tmp (v := .I x20.1) rfl .nil))) ?_
            exact ⟨_, _, (.refl _), ok.wh, _, F_some hF, rfl, rfl⟩
          · refine WP_skip (C_seq (C_reg (mdl [(57, 1)]) ?_))
            refine S_frzF (c := cP) (e := x20.2.2.Pairs) (cs' := [.I x20.2.2.Kind, .I x20.2.2.At, .str x20.2.2.Name, .sl 2 (List.map cP x20.2.2.Pairs) 0, .str x20.2.2.Text, .I x20.2.2.Refs]) 1 2 3 ok zu21 rfl hi17 rfl (by decide) (fun _ => rfl) rfl rfl (fun ok => ?_)
            refine S_frzP 1 11 ok rfl rfl hi17 (fun ok => S_m (v := mslO _ _ _) rfl (S_ldQ rfl (p_agg (vs := cTK x20.2.2) ty_ag_66 ty_sz_66 rfl rfl) ?_))
            refine S_lit0 (cs := [.I x20.2.2.Kind, .I x20.2.2.At, .str x20.2.2.Name, .sl 2 (List.map cP x20.2.2.Pairs) 0, .str x20.2.2.Text, .I x20.2.2.Refs]) (es := (List.map cTK [x20.2.2])) rfl ty_el_51 rfl (by kernel_rfl) (by kernel_rfl) ?_
            refine S_appO (j := 4) (M := [x20.2.2]) ok zg9 rfl rfl src_sl (fun _ => rfl) rfl ty_el_51 ty_ni_51 hF ?_
            intro u26 zu26 ok hF
            obtain ⟨a27, ha27, hF⟩ := F_let hF
            rw [← ha27] at ok zu26
            rw [← ha27]
            refine S_a (v := mslO _ _ _) rfl (Sn (WP_goto ?_))
            repeat (first | with_reducible refine Exit.sel_goto ?_ | with_reducible refine Exit.blk_goto ?_)
            refine jmp_goto rfl (ih14 (x20.2.1.b, x20.2.1.at_, a27) _ hF ?_)
            obtain ⟨hpe, ok⟩ := Hp_pull 4 ok rfl
            rw [hpe]; clear hpe
            have hwo : WO [mo u26 cTK a27, (cSc i3 x20.2.1), (0, .room), (0, .room), mo 0 cP nP] [mo u26 cTK a27, (cSc i3 x20.2.1)] := (.keep (.keep (.drop (.drop (.drop .nil)))))
            exact ⟨u26, zu26, (hwo.spec ok).1, WS.mk' (.k (.k .nil)) ok hwo⟩
theorem F_scan_All_ok {β : Type} {f : (List TK) × Int × Int → Option β} {G : β → Prop} {R : D → Heap → Prop} {p0 : LB} (h : Heap) (hF : OptP ((F_scan_All p0).bind f) G) (hk : ∀ r, F_scan_All p0 = some r → OptP (f r) G → R (.tup [.sl 6 (List.map cTK r.1) 0, .I r.2.1, .I r.2.2]) h) : CallsA Tryz.prog 22 [.sl 1 (List.map c_u8 p0) 0] h R := by
  obtain ⟨r0, hr, hF⟩ := F_bind hF
  refine (F_scan_All_w (G := fun r => r = r0) p0 h ⟨r0, hr, rfl⟩).mono ?_
  rintro _ _ ⟨r, rfl, rfl, rfl⟩
  exact hk _ hr hF
theorem F_scope_New_w {G : T_scope_Scope → Prop} (h : Heap) (hF : OptP (F_scope_New) G) : CallsA Tryz.prog 23 [] h fun d h' => ∃ r, G r ∧ d = .agg (c_T_scope_Scope r) ∧ h' = h := by
  refine CallsA.ret (C_body Tryz.func23 rfl en_23 Tryz.ntmps23 rfl (fun ok => ?_))
  rw [F_scope_New] at hF
  refine C_seq (C_reg (mdl [(0, 1)]) (S_all1 ok rfl ty_zc_57 ?_))
  intro i1 hi1 ok
  refine Sn (CR (S_bld (v := .agg [.snil]) (b_st ty_zc_57 ty_pl_57 rfl) (S_one 1 (v := .agg (c_T_scope_Scope (⟨([] : List T_scope_bind)⟩ : T_scope_Scope))) (.aggC (.cons (.nil _) (.nil))) (S_st (j := 0) (cs' := [.sl 2 (List.map c_T_scope_bind (⟨([] : List T_scope_bind)⟩ : T_scope_Scope).binds) 0]) ok rfl rfl rfl hi1 rfl ty_sz_57 rfl rfl (fun ok => Sn (WP_ret ?_))))))
  with_reducible repeat first | apply Exit.sr | apply Exit.br | apply Exit.jr
  refine C_ret (fn := Tryz.f23) rfl (.cell rfl (ld_ptr (j := 0) ok rfl hi1 (p_agg (vs := [.sl 2 (List.map c_T_scope_bind (⟨([] : List T_scope_bind)⟩ : T_scope_Scope).binds) 0]) ty_ag_57 ty_sz_57 rfl rfl)) .nil) ?_
  exact ⟨_, _, (.refl _), ok.wh, _, F_some hF, rfl, rfl⟩
theorem F_scope_New_ok {β : Type} {f : T_scope_Scope → Option β} {G : β → Prop} {R : D → Heap → Prop} (h : Heap) (hF : OptP ((F_scope_New).bind f) G) (hk : ∀ r, F_scope_New = some r → OptP (f r) G → R (.agg (c_T_scope_Scope r)) h) : CallsA Tryz.prog 23 [] h R := by
  obtain ⟨r0, hr, hF⟩ := F_bind hF
  refine (F_scope_New_w (G := fun r => r = r0)  h ⟨r0, hr, rfl⟩).mono ?_
  rintro _ _ ⟨r, rfl, rfl, rfl⟩
  exact hk _ hr hF
theorem F_parse_reader_put_w (p0 : T_parse_reader) (p1 : T_api_Node) (q0 : Nat) (b0_0 : Nat) (x0 : List (T_parse_open × Nat)) {G : Int × T_parse_reader → Prop} (h : Heap) (O : List (Nat × AObj)) (hq0 : q0 ≠ 0) (hb0_0 : b0_0 ≠ 0) (hx0 : List.map Prod.fst x0 = p0.open_) (zk0 : zkR x0) (ok : OK h ((q0, .cells [.msl 8 b0_0 0 (List.length p0.open_), .I p0.nodes, .bool p0.done]) :: (b0_0, .cells (fl cK (List.reverse x0))) :: (hidR x0 ++ O))) (hF : OptP (F_parse_reader_put p0 p1) G) : CallsA Tryz.prog 49 [.ptr q0 0, .agg (c_T_api_Node p1)] (Hp h ((q0, .cells [.msl 8 b0_0 0 (List.length p0.open_), .I p0.nodes, .bool p0.done]) :: (b0_0, .cells (fl cK (List.reverse x0))) :: (hidR x0 ++ O))) fun d h' => ∃ r, G r ∧ d = .I r.1 ∧ ∃ (b0_0' : Nat) (x0' : List (T_parse_open × Nat)), b0_0' ≠ 0 ∧ List.map Prod.fst x0' = r.2.open_ ∧ zkR x0' ∧ OK h ((q0, .cells [.msl 8 b0_0' 0 (List.length r.2.open_), .I r.2.nodes, .bool r.2.done]) :: (b0_0', .cells (fl cK (List.reverse x0'))) :: (hidR x0' ++ O)) ∧ h' = Hp h ((q0, .cells [.msl 8 b0_0' 0 (List.length r.2.open_), .I r.2.nodes, .bool r.2.done]) :: (b0_0', .cells (fl cK (List.reverse x0'))) :: (hidR x0' ++ O)) := by
  refine CallsA.ret (C_bodyO Tryz.func49 rfl en_49 Tryz.ntmps49 rfl ?_)
  rw [F_parse_reader_put] at hF
  refine CR (S_box0 (v := .agg (c_T_api_Node p1)) (cs := c_T_api_Node p1) rfl rfl rfl rfl (Ai rfl (Sn (C_seq (C_seq (C_reg (mdl []) ?_))))))
  refine S_faQ rfl ty_fd_30_4 ty_sz_9 (by rw [c_T_api_Node_eq]; rfl) ?_
  refine S_ldQ rfl (p_one ty_ag_9 ty_sz_9 (congrArg (List.drop 5) (c_T_api_Node_eq p1))) (S_lenS rfl ty_st_9 (S_bin rfl rfl (ev_gtr ..) (Sn ?_)))
  refine C_if (b := (decide ((8192 : Int) < (p1.Text.length : Int)))) rfl hF (fun hb1 hF => ?_) (fun hb1 hF => ?_)
  · refine CR (Ai rfl (Sn (WP_ret ?_)))
    with_reducible repeat first | apply Exit.sr | apply Exit.br | apply Exit.jr
    refine C_ret (fn := Tryz.f49) rfl (.tmp (v := .I 5) rfl .nil) ?_
    exact ⟨_, _, (.refl _), .refl _, _, F_some hF, rfl, b0_0, x0, hb0_0, hx0, zk0, ok, rfl⟩
  · refine WP_skip (CR (Mp rfl (S_call (top_ok (e := p0.open_) (j := 0) ok rfl hq0 hF fun x2 he3 hF => ?_) (.cons (.refl _) .nil))))
    obtain ⟨t4, xs5, rfl, hx6⟩ := stk_open hx0 he3
    have zt7 := (zkR_cons.1 zk0).1
    have zs8 := (zkR_cons.1 zk0).2
    have hp9 := fl_len cK_len hx6
    have hck : cK (x2.1, t4) = [.I x2.1.node.Kind, .str x2.1.node.Name.URI, .str x2.1.node.Name.Local, .sl 3 (List.map c_T_api_Attr x2.1.node.Attrs) 0, mslO 6 t4 x2.1.node.Kids, .str x2.1.node.Text, .str x2.1.raw, .sl 2 (List.map c_T_scope_bind x2.1.in_.binds) 0] := rfl
    rw [fl_rev, hidR_cons, List.cons_append, hck] at ok
    rw [fl_rev, hidR_cons, List.cons_append, hck]
    clear hck
    refine S_a (v := .ptr _ _) rfl (Sn (C_seq ?_))
    refine C_fork (mdl [(20, 1), (17, 3)]) [0, 1, 2, 3, 4, 5, 6, 7, 8, 9, 11, 12, 13] [10, 14] [14, 10] [_, _, _, _, _, _, _, _, _, _, _, _, _] [_, _] [_, _] (by kernel_rfl) rfl rfl rfl rfl (by kernel_rfl) ?_
    refine Mp rfl (S_nilc (v := .ptr _ _) rfl rfl (S_faP rfl ty_fd_60_0 ty_sz_30 (S_faP rfl ty_fd_30_3 ty_sz_28 ?_)))
    refine S_ldK (j := 1) (f0 := 4) ok rfl rfl rfl hb0_0 (by omega) (p_one (v := mslO 6 t4 x2.1.node.Kids) ty_ag_28 ty_sz_28 rfl) ?_
    refine S_ldQ rfl (p_agg (vs := c_T_api_Node p1) ty_ag_30 ty_sz_30 (by rw [c_T_api_Node_eq]; rfl) (by rw [c_T_api_Node_eq]; rfl)) ?_
    refine S_lenO zt7 rfl ty_sl_28 ?_
    refine S_lit0 (cs := [.I 0, .str nB, .str nB, .snil, .snil, .str nB]) (es := [[.I 0, .str nB, .str nB, .snil, .snil, .str nB]]) rfl ty_el_28 rfl (by kernel_rfl) rfl ?_
    refine S_appZ (c := c_T_api_Node) (e := x2.1.node.Kids) (zs := [.I 0, .str nB, .str nB, .snil, .snil, .str nB]) (z0 := (⟨(0 : Int), (⟨nB, nB⟩ : T_api_Name), ([] : List T_api_Attr), ([] : List T_api_Node), nB⟩ : T_api_Node)) (j := 2) ok zt7 rfl rfl rfl rfl c_T_api_Node_len rfl ty_el_28 ty_ni_28 hF ?_
    intro u10 hu10 ok hF
    refine S_ixZ (e := x2.1.node.Kids) rfl rfl ty_sl_28 ty_sz_30 (S_nilc (v := .ptr _ _) rfl rfl (S_faP rfl ty_fd_60_0 ty_sz_30 (S_faP rfl ty_fd_30_3 ty_sz_28 (Sn ?_))))
    refine ⟨?_, ?_⟩
    · refine S_stZ (c := c_T_api_Node) (e := x2.1.node.Kids) (b := p1) (zs := [.I 0, .str nB, .str nB, .snil, .snil, .str nB]) (j := 2) ok rfl rfl rfl hu10 c_T_api_Node_len rfl rfl ty_sz_30 rfl (fun ok => ?_)
      obtain ⟨a12, ha12, hF⟩ := F_let hF
      rw [← ha12] at ok
      rw [← ha12]
      have hml : .msl 6 u10 0 (List.length x2.1.node.Kids + 1) = mslO 6 u10 a12 := by rw [mslO_pos hu10, ha12, List.length_append]; rfl
      try rw [hml] at ok
      try rw [hml]
      clear hml
      refine S_stKB (j := 1) (f0 := 4) (cs' := [.I x2.1.node.Kind, .str x2.1.node.Name.URI, .str x2.1.node.Name.Local, .sl 3 (List.map c_T_api_Attr x2.1.node.Attrs) 0, mslO 6 u10 a12, .str x2.1.node.Text, .str x2.1.raw, .sl 2 (List.map c_T_scope_bind x2.1.in_.binds) 0]) ok rfl rfl rfl hb0_0 (by omega) ty_sz_28 rfl rfl (fun ok => ?_)
      refine Sn (CR (Mp rfl (S_nilc (v := .ptr _ _) rfl rfl (S_faP rfl ty_fd_63_1 ty_sz_3 (S_ldP (j := 0) ok rfl rfl rfl hq0 (p_one (v := .I p0.nodes) ty_ag_3 ty_sz_3 rfl) (S_bin rfl rfl (ev_add ..) (S_nilc (v := .ptr _ _) rfl rfl (S_faP rfl ty_fd_63_1 ty_sz_3 (S_st (j := 0) (cs' := [.msl 8 b0_0 0 (List.length p0.open_), .I (IntKind.wrap .i64 (p0.nodes + (1 : Int))), .bool p0.done]) ok rfl rfl rfl hq0 rfl ty_sz_3 rfl rfl (fun ok => Sn (CR (Ai rfl (Sn (WP_ret ?_))))))))))))))
      have hck : cK ((⟨(⟨x2.1.node.Kind, x2.1.node.Name, x2.1.node.Attrs, a12, x2.1.node.Text⟩ : T_api_Node), x2.1.raw, x2.1.in_⟩ : T_parse_open), u10) = [.I x2.1.node.Kind, .str x2.1.node.Name.URI, .str x2.1.node.Name.Local, .sl 3 (List.map c_T_api_Attr x2.1.node.Attrs) 0, mslO 6 u10 a12, .str x2.1.node.Text, .str x2.1.raw, .sl 2 (List.map c_T_scope_bind x2.1.in_.binds) 0] := rfl
      rw [← hck, ← fl_rev (c := cK)] at ok
      rw [← hck, ← fl_rev (c := cK)]
      clear hck
      have hx13 : List.map Prod.fst (((⟨(⟨x2.1.node.Kind, x2.1.node.Name, x2.1.node.Attrs, a12, x2.1.node.Text⟩ : T_api_Node), x2.1.raw, x2.1.in_⟩ : T_parse_open), u10) :: xs5) = ((⟨(⟨x2.1.node.Kind, x2.1.node.Name, x2.1.node.Attrs, a12, x2.1.node.Text⟩ : T_api_Node), x2.1.raw, x2.1.in_⟩ : T_parse_open) :: x2.2) := by rw [List.map_cons, hx6]
      have zs14 : zkR (((⟨(⟨x2.1.node.Kind, x2.1.node.Name, x2.1.node.Attrs, a12, x2.1.node.Text⟩ : T_api_Node), x2.1.raw, x2.1.in_⟩ : T_parse_open), u10) :: xs5) := zkR_cons.2 ⟨(fun h => absurd h hu10), zs8⟩
      have hle15 : List.length p0.open_ = List.length ((⟨(⟨x2.1.node.Kind, x2.1.node.Name, x2.1.node.Attrs, a12, x2.1.node.Text⟩ : T_api_Node), x2.1.raw, x2.1.in_⟩ : T_parse_open) :: x2.2) := by rw [he3]; rfl
      try rw [hle15] at ok
      try rw [hle15]
      with_reducible repeat first | apply Exit.sr | apply Exit.br | apply Exit.jr
      refine C_ret (fn := Tryz.f49) rfl (.tmp (v := .I 0) rfl .nil) ?_
      exact ⟨_, _, (.refl _), .refl _, _, F_some hF, rfl, b0_0, (((⟨(⟨x2.1.node.Kind, x2.1.node.Name, x2.1.node.Attrs, a12, x2.1.node.Text⟩ : T_api_Node), x2.1.raw, x2.1.in_⟩ : T_parse_open), u10) :: xs5), hb0_0, hx13, zs14, ok, rfl⟩
    · refine S_stK (j := 1) (f0 := 4) (cs' := [.I x2.1.node.Kind, .str x2.1.node.Name.URI, .str x2.1.node.Name.Local, .sl 3 (List.map c_T_api_Attr x2.1.node.Attrs) 0, .msl 6 u10 0 (List.length x2.1.node.Kids + 1), .str x2.1.node.Text, .str x2.1.raw, .sl 2 (List.map c_T_scope_bind x2.1.in_.binds) 0]) ok rfl rfl rfl hb0_0 (by omega) rfl ty_sz_28 rfl rfl (fun ok => ?_)
      refine S_stZ (c := c_T_api_Node) (e := x2.1.node.Kids) (b := p1) (zs := [.I 0, .str nB, .str nB, .snil, .snil, .str nB]) (j := 2) ok rfl rfl rfl hu10 c_T_api_Node_len rfl rfl ty_sz_30 rfl (fun ok => ?_)
      obtain ⟨a16, ha16, hF⟩ := F_let hF
      rw [← ha16] at ok
      rw [← ha16]
      have hml : .msl 6 u10 0 (List.length x2.1.node.Kids + 1) = mslO 6 u10 a16 := by rw [mslO_pos hu10, ha16, List.length_append]; rfl
      try rw [hml] at ok
      try rw [hml]
      clear hml
      refine Sn (CR (Mp rfl (S_nilc (v := .ptr _ _) rfl rfl (S_faP rfl ty_fd_63_1 ty_sz_3 (S_ldP (j := 0) ok rfl rfl rfl hq0 (p_one (v := .I p0.nodes) ty_ag_3 ty_sz_3 rfl) (S_bin rfl rfl (ev_add ..) (S_nilc (v := .ptr _ _) rfl rfl (S_faP rfl ty_fd_63_1 ty_sz_3 (S_st (j := 0) (cs' := [.msl 8 b0_0 0 (List.length p0.open_), .I (IntKind.wrap .i64 (p0.nodes + (1 : Int))), .bool p0.done]) ok rfl rfl rfl hq0 rfl ty_sz_3 rfl rfl (fun ok => Sn (CR (Ai rfl (Sn (WP_ret ?_))))))))))))))
      have hck : cK ((⟨(⟨x2.1.node.Kind, x2.1.node.Name, x2.1.node.Attrs, a16, x2.1.node.Text⟩ : T_api_Node), x2.1.raw, x2.1.in_⟩ : T_parse_open), u10) = [.I x2.1.node.Kind, .str x2.1.node.Name.URI, .str x2.1.node.Name.Local, .sl 3 (List.map c_T_api_Attr x2.1.node.Attrs) 0, mslO 6 u10 a16, .str x2.1.node.Text, .str x2.1.raw, .sl 2 (List.map c_T_scope_bind x2.1.in_.binds) 0] := rfl
      rw [← hck, ← fl_rev (c := cK)] at ok
      rw [← hck, ← fl_rev (c := cK)]
      clear hck
      have hx17 : List.map Prod.fst (((⟨(⟨x2.1.node.Kind, x2.1.node.Name, x2.1.node.Attrs, a16, x2.1.node.Text⟩ : T_api_Node), x2.1.raw, x2.1.in_⟩ : T_parse_open), u10) :: xs5) = ((⟨(⟨x2.1.node.Kind, x2.1.node.Name, x2.1.node.Attrs, a16, x2.1.node.Text⟩ : T_api_Node), x2.1.raw, x2.1.in_⟩ : T_parse_open) :: x2.2) := by rw [List.map_cons, hx6]
      have zs18 : zkR (((⟨(⟨x2.1.node.Kind, x2.1.node.Name, x2.1.node.Attrs, a16, x2.1.node.Text⟩ : T_api_Node), x2.1.raw, x2.1.in_⟩ : T_parse_open), u10) :: xs5) := zkR_cons.2 ⟨(fun h => absurd h hu10), zs8⟩
      have hle19 : List.length p0.open_ = List.length ((⟨(⟨x2.1.node.Kind, x2.1.node.Name, x2.1.node.Attrs, a16, x2.1.node.Text⟩ : T_api_Node), x2.1.raw, x2.1.in_⟩ : T_parse_open) :: x2.2) := by rw [he3]; rfl
      try rw [hle19] at ok
      try rw [hle19]
      with_reducible repeat first | apply Exit.sr | apply Exit.br | apply Exit.jr
      refine C_ret (fn := Tryz.f49) rfl (.tmp (v := .I 0) rfl .nil) ?_
      exact ⟨_, _, (.refl _), .refl _, _, F_some hF, rfl, b0_0, (((⟨(⟨x2.1.node.Kind, x2.1.node.Name, x2.1.node.Attrs, a16, x2.1.node.Text⟩ : T_api_Node), x2.1.raw, x2.1.in_⟩ : T_parse_open), u10) :: xs5), hb0_0, hx17, zs18, ok, rfl⟩
theorem F_parse_reader_put_ok {β : Type} {f0 : Int × T_parse_reader → Option β} {G : β → Prop} {R : D → Heap → Prop} {p0 : T_parse_reader} {p1 : T_api_Node} {q0 : Nat} {b0_0 : Nat} {x0 : List (T_parse_open × Nat)} (h : Heap) (O : List (Nat × AObj)) (hq0 : q0 ≠ 0) (hb0_0 : b0_0 ≠ 0) (hx0 : List.map Prod.fst x0 = p0.open_) (zk0 : zkR x0) (ok : OK h ((q0, .cells [.msl 8 b0_0 0 (List.length p0.open_), .I p0.nodes, .bool p0.done]) :: (b0_0, .cells (fl cK (List.reverse x0))) :: (hidR x0 ++ O))) (hF : OptP ((F_parse_reader_put p0 p1).bind f0) G) (hk : ∀ r b0_0' x0', F_parse_reader_put p0 p1 = some r → b0_0' ≠ 0 → List.map Prod.fst x0' = r.2.open_ → zkR x0' → OK h ((q0, .cells [.msl 8 b0_0' 0 (List.length r.2.open_), .I r.2.nodes, .bool r.2.done]) :: (b0_0', .cells (fl cK (List.reverse x0'))) :: (hidR x0' ++ O)) → OptP (f0 r) G → R (.I r.1) (Hp h ((q0, .cells [.msl 8 b0_0' 0 (List.length r.2.open_), .I r.2.nodes, .bool r.2.done]) :: (b0_0', .cells (fl cK (List.reverse x0'))) :: (hidR x0' ++ O)))) : CallsA Tryz.prog 49 [.ptr q0 0, .agg (c_T_api_Node p1)] (Hp h ((q0, .cells [.msl 8 b0_0 0 (List.length p0.open_), .I p0.nodes, .bool p0.done]) :: (b0_0, .cells (fl cK (List.reverse x0))) :: (hidR x0 ++ O))) R := by
  obtain ⟨r0, hr, hF⟩ := F_bind hF
  refine (F_parse_reader_put_w (G := fun r => r = r0) p0 p1 q0 b0_0 x0 h O hq0 hb0_0 hx0 zk0 ok ⟨r0, hr, rfl⟩).mono ?_
  rintro _ _ ⟨r, rfl, rfl, b0_0', x0', yy0, yy1, yy2, ok', rfl⟩
  exact hk _ _ _ hr yy0 yy1 yy2 ok' hF
theorem F_parse_reader_text_w (p0 : T_parse_reader) (p1 : TK) (q0 : Nat) (b0_0 : Nat) (x0 : List (T_parse_open × Nat)) {G : Int × T_parse_reader → Prop} (h : Heap) (O : List (Nat × AObj)) (hq0 : q0 ≠ 0) (hb0_0 : b0_0 ≠ 0) (hx0 : List.map Prod.fst x0 = p0.open_) (zk0 : zkR x0) (ok : OK h ((q0, .cells [.msl 8 b0_0 0 (List.length p0.open_), .I p0.nodes, .bool p0.done]) :: (b0_0, .cells (fl cK (List.reverse x0))) :: (hidR x0 ++ O))) (hF : OptP (F_parse_reader_text p0 p1) G) : CallsA Tryz.prog 50 [.ptr q0 0, .agg (cTK p1)] (Hp h ((q0, .cells [.msl 8 b0_0 0 (List.length p0.open_), .I p0.nodes, .bool p0.done]) :: (b0_0, .cells (fl cK (List.reverse x0))) :: (hidR x0 ++ O))) fun d h' => ∃ r, G r ∧ d = .I r.1 ∧ ∃ (b0_0' : Nat) (x0' : List (T_parse_open × Nat)), b0_0' ≠ 0 ∧ List.map Prod.fst x0' = r.2.open_ ∧ zkR x0' ∧ OK h ((q0, .cells [.msl 8 b0_0' 0 (List.length r.2.open_), .I r.2.nodes, .bool r.2.done]) :: (b0_0', .cells (fl cK (List.reverse x0'))) :: (hidR x0' ++ O)) ∧ h' = Hp h ((q0, .cells [.msl 8 b0_0' 0 (List.length r.2.open_), .I r.2.nodes, .bool r.2.done]) :: (b0_0', .cells (fl cK (List.reverse x0'))) :: (hidR x0' ++ O)) := by
  refine CallsA.ret (C_bodyO Tryz.func50 rfl en_50 Tryz.ntmps50 rfl ?_)
  rw [F_parse_reader_text] at hF
  refine CR (S_box0 rfl rfl rfl rfl (Ai rfl (Sn (C_seq (CR (Mp rfl (S_nilc (v := .ptr _ _) rfl rfl (S_faP rfl ty_fd_63_0 ty_sz_61 (S_ldP (j := 0) ok rfl rfl rfl hq0 (p_one (v := .msl 8 b0_0 0 (List.length p0.open_)) ty_ag_61 ty_sz_61 rfl) (S_lenM (e := p0.open_) rfl ty_sl_61 (S_bin rfl rfl (ev_eql ..) (Sn ?_))))))))))))
  refine C_if (b := ((p0.open_.length : Int) == (1 : Int))) rfl hF (fun hb1 hF => ?_) (fun hb1 hF => ?_)
  · refine C_seq (CR (S_faQ rfl ty_fd_66_0 ty_sz_3 rfl (S_ldQ rfl (p_one ty_ag_3 ty_sz_3 rfl) (S_bin rfl rfl (ev_eql ..) (Mb rfl ?_)))))
    refine S_two (b := (p1.Kind == (6 : Int))) 4 20 (.bool ((p1.Kind == (6 : Int)) || (decide ((0 : Int) < p1.Refs)))) (fun hb2 => ?_) (fun hb2 => ?_) ?_
    · refine So rfl rfl hb2 (So rfl rfl hb2 (So rfl rfl hb2 (S_pickT (v := .bool _) rfl hb2 rfl (Sn (.hd (or_t hb2) ?_)))))
      repeat first | with_reducible exact .refl _ | refine .add ?_ rfl | exact .refl _
    · refine Sx rfl rfl hb2 (S_faQ rfl ty_fd_66_5 ty_sz_3 rfl (Sn (Sx rfl rfl hb2 (S_ldQ rfl (p_one ty_ag_3 ty_sz_3 rfl) (Sn (Sx rfl rfl hb2 (S_bin rfl rfl (ev_gtr ..) (Sn (S_pickF (v := .bool _) rfl hb2 rfl (Sn (.hd (or_f hb2) ?_)))))))))))
      repeat first | with_reducible exact .refl _ | refine .add ?_ rfl | exact .refl _
    refine Mb rfl ?_
    refine S_twoJ 5 26 hF (fun J4 hb3 hF => ?_) (fun J4 hb3 hF => ?_) (fun v5 hF => ?_)
    · refine So rfl rfl hb3 (So rfl rfl hb3 (So rfl rfl hb3 (So rfl rfl hb3 (S_pickT (v := .bool _) rfl hb3 rfl (Sn ?_)))))
      refine ⟨_, hF, .hd (.refl _) ?_⟩
      repeat first | with_reducible exact .refl _ | refine .add ?_ rfl | exact .refl _
    · refine Sx rfl rfl hb3 (S_faQ rfl ty_fd_66_4 ty_sz_9 rfl (Sn (Sx rfl rfl hb3 (S_ldQ rfl (p_one ty_ag_9 ty_sz_9 rfl) (Sn (Sx rfl rfl hb3 (S_call (L_Trim_ok _ hF fun x6 _ hF => (Sn (Sx rfl rfl hb3 (S_bin rfl rfl e_sneq (Sn (S_pickF (v := .bool _) rfl hb3 rfl (Sn ?_))))))) (.refl _))))))))
      refine ⟨_, hF, .hd (.refl _) ?_⟩
      repeat first | with_reducible exact .refl _ | refine .add ?_ rfl | exact .refl _
    · refine Sn ?_
      refine C_if (b := v5) rfl hF (fun hb7 hF => ?_) (fun hb7 hF => ?_)
      · refine CR (Ai rfl (Sn (WP_ret ?_)))
        with_reducible repeat first | apply Exit.sr | apply Exit.br | apply Exit.jr
        refine C_ret (fn := Tryz.f50) rfl (.tmp (v := .I 30) rfl .nil) ?_
        exact ⟨_, _, (.refl _), .refl _, _, F_some hF, rfl, b0_0, x0, hb0_0, hx0, zk0, ok, rfl⟩
      · refine WP_skip (CR (Ai rfl (Sn (WP_ret ?_))))
        with_reducible repeat first | apply Exit.sr | apply Exit.br | apply Exit.jr
        refine C_ret (fn := Tryz.f50) rfl (.tmp (v := .I 0) rfl .nil) ?_
        exact ⟨_, _, (.refl _), .refl _, _, F_some hF, rfl, b0_0, x0, hb0_0, hx0, zk0, ok, rfl⟩
  · refine WP_skip (CR (Mp rfl (S_call (top_ok (e := p0.open_) (j := 0) ok rfl hq0 hF fun x8 he9 hF => ?_) (.cons (.refl _) .nil))))
    obtain ⟨t10, xs11, rfl, hx12⟩ := stk_open hx0 he9
    have zt13 := (zkR_cons.1 zk0).1
    have zs14 := (zkR_cons.1 zk0).2
    have hp15 := fl_len cK_len hx12
    have hck : cK (x8.1, t10) = [.I x8.1.node.Kind, .str x8.1.node.Name.URI, .str x8.1.node.Name.Local, .sl 3 (List.map c_T_api_Attr x8.1.node.Attrs) 0, mslO 6 t10 x8.1.node.Kids, .str x8.1.node.Text, .str x8.1.raw, .sl 2 (List.map c_T_scope_bind x8.1.in_.binds) 0] := rfl
    rw [fl_rev, hidR_cons, List.cons_append, hck] at ok
    rw [fl_rev, hidR_cons, List.cons_append, hck]
    clear hck
    refine S_a (v := .ptr _ _) rfl (Sn (CR (Mp rfl (S_nilc (v := .ptr _ _) rfl rfl (S_faP rfl ty_fd_60_0 ty_sz_30 (S_faP rfl ty_fd_30_3 ty_sz_28 ?_))))))
    refine S_ldK (j := 1) (f0 := 4) ok rfl rfl rfl hb0_0 (by omega) (p_one (v := mslO 6 t10 x8.1.node.Kids) ty_ag_28 ty_sz_28 rfl) ?_
    refine S_lenO zt13 rfl ty_sl_28 (S_bin rfl rfl (ev_sub ..) (Ai rfl (Sn (C_seq (WP_block (CR (S_faQ rfl ty_fd_66_4 ty_sz_9 rfl (S_ldQ rfl (p_one ty_ag_9 ty_sz_9 rfl) (S_bin rfl rfl e_seql (Ab rfl (Sn ?_)))))))))))
    refine C_if (b := (p1.Text == nB)) rfl hF (fun hb16 hF => ?_) (fun hb16 hF => ?_)
    · refine CR (Ai rfl (Sn (WP_ret ?_)))
      have hck : cK (x8.1, t10) = [.I x8.1.node.Kind, .str x8.1.node.Name.URI, .str x8.1.node.Name.Local, .sl 3 (List.map c_T_api_Attr x8.1.node.Attrs) 0, mslO 6 t10 x8.1.node.Kids, .str x8.1.node.Text, .str x8.1.raw, .sl 2 (List.map c_T_scope_bind x8.1.in_.binds) 0] := rfl
      rw [← hck, ← fl_rev (c := cK)] at ok
      rw [← hck, ← fl_rev (c := cK)]
      clear hck
      have hx17 : List.map Prod.fst ((x8.1, t10) :: xs11) = p0.open_ := by rw [List.map_cons, hx12, he9]
      have zs18 : zkR ((x8.1, t10) :: xs11) := zkR_cons.2 ⟨zt13, zs14⟩
      with_reducible repeat first | apply Exit.sr | apply Exit.br | apply Exit.jr
      refine C_ret (fn := Tryz.f50) rfl (.tmp (v := .I 0) rfl .nil) ?_
      exact ⟨_, _, (.refl _), .refl _, _, F_some hF, rfl, b0_0, ((x8.1, t10) :: xs11), hb0_0, hx17, zs18, ok, rfl⟩
    · refine CR (Mi rfl (S_bin rfl rfl (ev_lss ..) (Mb rfl ?_)))
      refine S_twoJ 11 54 hF (fun J20 hb19 hF => ?_) (fun J20 hb19 hF => ?_) (fun v21 hF => ?_)
      · refine So rfl rfl hb19 (So rfl rfl hb19 (So rfl rfl hb19 (So rfl rfl hb19 (So rfl rfl hb19 (So rfl rfl hb19 (So rfl rfl hb19 (So rfl rfl hb19 (So rfl rfl hb19 (So rfl rfl hb19 (S_pickT (v := .bool _) rfl hb19 rfl (Sn ?_)))))))))))
        refine ⟨_, hF, .hd (.refl _) ?_⟩
        repeat first | with_reducible exact .refl _ | refine .add ?_ rfl | exact .refl _
      · refine Sx rfl rfl hb19 (Mp rfl (Sn (Sx rfl rfl hb19 (S_nilc (v := .ptr _ _) rfl rfl (Sn (Sx rfl rfl hb19 (S_faP rfl ty_fd_60_0 ty_sz_30 (Sn (Sx rfl rfl hb19 (S_faP rfl ty_fd_30_3 ty_sz_28 (Sn (Sx rfl rfl hb19 ?_))))))))))))
        refine S_ldK (j := 1) (f0 := 4) ok rfl rfl rfl hb0_0 (by omega) (p_one (v := mslO 6 t10 x8.1.node.Kids) ty_ag_28 ty_sz_28 rfl) ?_
        refine Sn (Sx rfl rfl hb19 (Mi rfl (Sn (Sx rfl rfl hb19 (S_ixO zt13 rfl rfl ty_sl_28 ty_sz_30 hF (fun x22 hx22 hF => Sn (Sx rfl rfl hb19 (S_faP rfl ty_fd_30_0 ty_sz_3 (Sn (Sx rfl rfl hb19 (S_ldO (q := 6) (j := 2) (f0 := 0) ok rfl zt13 rfl rfl c_T_api_Node_len hx22 rfl rfl (p_one ty_ag_3 ty_sz_3 (congrArg (List.drop 0) (c_T_api_Node_eq x22))) (Sn (Sx rfl rfl hb19 (S_bin rfl rfl (ev_neq ..) (Sn (S_pickF (v := .bool _) rfl hb19 rfl (Sn ?_)))))))))))))))))
        refine ⟨_, hF, .hd (.refl _) ?_⟩
        repeat first | with_reducible exact .refl _ | refine .add ?_ rfl | exact .refl _
      · refine Ab rfl (Sn ?_)
        refine C_if (b := v21) rfl hF (fun hb23 hF => ?_) (fun hb23 hF => ?_)
        · refine CR (Mp rfl (S_faQ rfl ty_fd_66_4 ty_sz_9 rfl (S_ldQ rfl (p_one ty_ag_9 ty_sz_9 rfl) (S_bld (v := .agg [.I 3, .str nB, .str nB, .snil, .snil, .str p1.Text]) (b_st ty_zc_30 ty_pl_30 rfl) (S_one 58 (v := .agg (c_T_api_Node (⟨(3 : Int), (⟨nB, nB⟩ : T_api_Name), ([] : List T_api_Attr), ([] : List T_api_Node), p1.Text⟩ : T_api_Node))) (Wd.toE (.aggC (.cons (.refl _) (.cons (.refl _) (.cons (.refl _) (.cons (.nil _) (.cons (.nil _) (.refl _))))))) (c_T_api_Node_eq _)) ?_)))))
          have hck : cK (x8.1, t10) = [.I x8.1.node.Kind, .str x8.1.node.Name.URI, .str x8.1.node.Name.Local, .sl 3 (List.map c_T_api_Attr x8.1.node.Attrs) 0, mslO 6 t10 x8.1.node.Kids, .str x8.1.node.Text, .str x8.1.raw, .sl 2 (List.map c_T_scope_bind x8.1.in_.binds) 0] := rfl
          rw [← hck, ← fl_rev (c := cK)] at ok
          rw [← hck, ← fl_rev (c := cK)]
          clear hck
          have hx24 : List.map Prod.fst ((x8.1, t10) :: xs11) = p0.open_ := by rw [List.map_cons, hx12, he9]
          have zs25 : zkR ((x8.1, t10) :: xs11) := zkR_cons.2 ⟨zt13, zs14⟩
          obtain ⟨hpe, ok⟩ := Hp_pull 1 ok rfl
          rw [hpe]; clear hpe
          obtain ⟨hpe, ok⟩ := Hp_pull 1 ok rfl
          rw [hpe]; clear hpe
          refine S_call (F_parse_reader_put_ok (p0 := p0) (q0 := q0) (b0_0 := b0_0) (x0 := ((x8.1, t10) :: xs11)) h O hq0 hb0_0 hx24 zs25 ok hF fun x26 u27 x28 _ hu27 hxu27 zku27 ok hF => (Ai rfl (Sn (WP_ret ?_)))) (.refl _)
          with_reducible repeat first | apply Exit.sr | apply Exit.br | apply Exit.jr
          refine C_ret (fn := Tryz.f50) rfl (.tmp (v := .I x26.1) rfl .nil) ?_
          exact ⟨_, _, (.refl _), .refl _, _, F_some hF, rfl, u27, x28, hu27, hxu27, zku27, ok, rfl⟩
        · refine WP_skip (C_seq ?_)
          refine C_drw (mdl [(70, 3)]) (by kernel_rfl) (by kernel_rfl) ?_
          refine Mp rfl (S_nilc (v := .ptr _ _) rfl rfl (S_faP rfl ty_fd_60_0 ty_sz_30 (S_faP rfl ty_fd_30_3 ty_sz_28 ?_)))
          refine S_ldK (j := 1) (f0 := 4) ok rfl rfl rfl hb0_0 (by omega) (p_one (v := mslO 6 t10 x8.1.node.Kids) ty_ag_28 ty_sz_28 rfl) ?_
          refine Mi rfl (S_ixO zt13 rfl rfl ty_sl_28 ty_sz_30 hF (fun x29 hx29 hF => S_faP rfl ty_fd_30_4 ty_sz_9 (S_ldO (q := 6) (j := 2) (f0 := 5) ok rfl zt13 rfl rfl c_T_api_Node_len hx29 rfl rfl (p_one ty_ag_9 ty_sz_9 (congrArg (List.drop 5) (c_T_api_Node_eq x29))) (S_faQ rfl ty_fd_66_4 ty_sz_9 rfl (S_ldQ rfl (p_one ty_ag_9 ty_sz_9 rfl) (S_cat rfl rfl hF (fun hF => S_ixO zt13 rfl rfl ty_sl_28 ty_sz_30 hF (fun x30 hx30 hF => S_faP rfl ty_fd_30_4 ty_sz_9 ?_))))))))
          refine S_stO (q := 6) (j := 2) (f0 := 5) (b := (⟨x30.Kind, x30.Name, x30.Attrs, x30.Kids, (x29.Text ++ p1.Text)⟩ : T_api_Node)) ok zt13 rfl rfl rfl c_T_api_Node_len hx30 rfl rfl ty_sz_9 rfl (by rw [c_T_api_Node_eq, c_T_api_Node_eq]; rfl) (fun za31 ok => ?_)
          obtain ⟨a31, ha31, hF⟩ := F_let hF
          rw [← ha31] at ok za31
          rw [← ha31]
          have hms : mslO 6 t10 x8.1.node.Kids = mslO 6 t10 a31 := mslO_len (by rw [ha31, List.length_set])
          try rw [hms] at ok
          try rw [hms]
          clear hms
          refine Sn (C_seq (CR (Mp rfl (S_nilc (v := .ptr _ _) rfl rfl (S_faP rfl ty_fd_60_0 ty_sz_30 (S_faP rfl ty_fd_30_3 ty_sz_28 ?_))))))
          refine S_ldK (j := 1) (f0 := 4) ok rfl rfl rfl hb0_0 (by omega) (p_one (v := mslO 6 t10 a31) ty_ag_28 ty_sz_28 rfl) ?_
          refine Mi rfl (S_ixO za31 rfl rfl ty_sl_28 ty_sz_30 hF (fun x32 hx32 hF => S_faP rfl ty_fd_30_4 ty_sz_9 (S_ldO (q := 6) (j := 2) (f0 := 5) ok rfl za31 rfl rfl c_T_api_Node_len hx32 rfl rfl (p_one ty_ag_9 ty_sz_9 (congrArg (List.drop 5) (c_T_api_Node_eq x32))) (S_lenS rfl ty_st_9 (S_bin rfl rfl (ev_gtr ..) (Sn ?_))))))
          refine C_if (b := (decide ((8192 : Int) < (x32.Text.length : Int)))) rfl hF (fun hb33 hF => ?_) (fun hb33 hF => ?_)
          · refine CR (Ai rfl (Sn (WP_ret ?_)))
            have hck : cK ((⟨(⟨x8.1.node.Kind, x8.1.node.Name, x8.1.node.Attrs, a31, x8.1.node.Text⟩ : T_api_Node), x8.1.raw, x8.1.in_⟩ : T_parse_open), t10) = [.I x8.1.node.Kind, .str x8.1.node.Name.URI, .str x8.1.node.Name.Local, .sl 3 (List.map c_T_api_Attr x8.1.node.Attrs) 0, mslO 6 t10 a31, .str x8.1.node.Text, .str x8.1.raw, .sl 2 (List.map c_T_scope_bind x8.1.in_.binds) 0] := rfl
            rw [← hck, ← fl_rev (c := cK)] at ok
            rw [← hck, ← fl_rev (c := cK)]
            clear hck
            have hx34 : List.map Prod.fst (((⟨(⟨x8.1.node.Kind, x8.1.node.Name, x8.1.node.Attrs, a31, x8.1.node.Text⟩ : T_api_Node), x8.1.raw, x8.1.in_⟩ : T_parse_open), t10) :: xs11) = ((⟨(⟨x8.1.node.Kind, x8.1.node.Name, x8.1.node.Attrs, a31, x8.1.node.Text⟩ : T_api_Node), x8.1.raw, x8.1.in_⟩ : T_parse_open) :: x8.2) := by rw [List.map_cons, hx12]
            have zs35 : zkR (((⟨(⟨x8.1.node.Kind, x8.1.node.Name, x8.1.node.Attrs, a31, x8.1.node.Text⟩ : T_api_Node), x8.1.raw, x8.1.in_⟩ : T_parse_open), t10) :: xs11) := zkR_cons.2 ⟨za31, zs14⟩
            have hle36 : List.length p0.open_ = List.length ((⟨(⟨x8.1.node.Kind, x8.1.node.Name, x8.1.node.Attrs, a31, x8.1.node.Text⟩ : T_api_Node), x8.1.raw, x8.1.in_⟩ : T_parse_open) :: x8.2) := by rw [he9]; rfl
            try rw [hle36] at ok
            try rw [hle36]
            with_reducible repeat first | apply Exit.sr | apply Exit.br | apply Exit.jr
            refine C_ret (fn := Tryz.f50) rfl (.tmp (v := .I 5) rfl .nil) ?_
            exact ⟨_, _, (.refl _), .refl _, _, F_some hF, rfl, b0_0, (((⟨(⟨x8.1.node.Kind, x8.1.node.Name, x8.1.node.Attrs, a31, x8.1.node.Text⟩ : T_api_Node), x8.1.raw, x8.1.in_⟩ : T_parse_open), t10) :: xs11), hb0_0, hx34, zs35, ok, rfl⟩
          · refine WP_skip (CR (Ai rfl (Sn (WP_ret ?_))))
            have hck : cK ((⟨(⟨x8.1.node.Kind, x8.1.node.Name, x8.1.node.Attrs, a31, x8.1.node.Text⟩ : T_api_Node), x8.1.raw, x8.1.in_⟩ : T_parse_open), t10) = [.I x8.1.node.Kind, .str x8.1.node.Name.URI, .str x8.1.node.Name.Local, .sl 3 (List.map c_T_api_Attr x8.1.node.Attrs) 0, mslO 6 t10 a31, .str x8.1.node.Text, .str x8.1.raw, .sl 2 (List.map c_T_scope_bind x8.1.in_.binds) 0] := rfl
            rw [← hck, ← fl_rev (c := cK)] at ok
            rw [← hck, ← fl_rev (c := cK)]
            clear hck
            have hx37 : List.map Prod.fst (((⟨(⟨x8.1.node.Kind, x8.1.node.Name, x8.1.node.Attrs, a31, x8.1.node.Text⟩ : T_api_Node), x8.1.raw, x8.1.in_⟩ : T_parse_open), t10) :: xs11) = ((⟨(⟨x8.1.node.Kind, x8.1.node.Name, x8.1.node.Attrs, a31, x8.1.node.Text⟩ : T_api_Node), x8.1.raw, x8.1.in_⟩ : T_parse_open) :: x8.2) := by rw [List.map_cons, hx12]
            have zs38 : zkR (((⟨(⟨x8.1.node.Kind, x8.1.node.Name, x8.1.node.Attrs, a31, x8.1.node.Text⟩ : T_api_Node), x8.1.raw, x8.1.in_⟩ : T_parse_open), t10) :: xs11) := zkR_cons.2 ⟨za31, zs14⟩
            have hle39 : List.length p0.open_ = List.length ((⟨(⟨x8.1.node.Kind, x8.1.node.Name, x8.1.node.Attrs, a31, x8.1.node.Text⟩ : T_api_Node), x8.1.raw, x8.1.in_⟩ : T_parse_open) :: x8.2) := by rw [he9]; rfl
            try rw [hle39] at ok
            try rw [hle39]
            with_reducible repeat first | apply Exit.sr | apply Exit.br | apply Exit.jr
            refine C_ret (fn := Tryz.f50) rfl (.tmp (v := .I 0) rfl .nil) ?_
            exact ⟨_, _, (.refl _), .refl _, _, F_some hF, rfl, b0_0, (((⟨(⟨x8.1.node.Kind, x8.1.node.Name, x8.1.node.Attrs, a31, x8.1.node.Text⟩ : T_api_Node), x8.1.raw, x8.1.in_⟩ : T_parse_open), t10) :: xs11), hb0_0, hx37, zs38, ok, rfl⟩
theorem F_parse_reader_text_ok {β : Type} {f0 : Int × T_parse_reader → Option β} {G : β → Prop} {R : D → Heap → Prop} {p0 : T_parse_reader} {p1 : TK} {q0 : Nat} {b0_0 : Nat} {x0 : List (T_parse_open × Nat)} (h : Heap) (O : List (Nat × AObj)) (hq0 : q0 ≠ 0) (hb0_0 : b0_0 ≠ 0) (hx0 : List.map Prod.fst x0 = p0.open_) (zk0 : zkR x0) (ok : OK h ((q0, .cells [.msl 8 b0_0 0 (List.length p0.open_), .I p0.nodes, .bool p0.done]) :: (b0_0, .cells (fl cK (List.reverse x0))) :: (hidR x0 ++ O))) (hF : OptP ((F_parse_reader_text p0 p1).bind f0) G) (hk : ∀ r b0_0' x0', F_parse_reader_text p0 p1 = some r → b0_0' ≠ 0 → List.map Prod.fst x0' = r.2.open_ → zkR x0' → OK h ((q0, .cells [.msl 8 b0_0' 0 (List.length r.2.open_), .I r.2.nodes, .bool r.2.done]) :: (b0_0', .cells (fl cK (List.reverse x0'))) :: (hidR x0' ++ O)) → OptP (f0 r) G → R (.I r.1) (Hp h ((q0, .cells [.msl 8 b0_0' 0 (List.length r.2.open_), .I r.2.nodes, .bool r.2.done]) :: (b0_0', .cells (fl cK (List.reverse x0'))) :: (hidR x0' ++ O)))) : CallsA Tryz.prog 50 [.ptr q0 0, .agg (cTK p1)] (Hp h ((q0, .cells [.msl 8 b0_0 0 (List.length p0.open_), .I p0.nodes, .bool p0.done]) :: (b0_0, .cells (fl cK (List.reverse x0))) :: (hidR x0 ++ O))) R := by
  obtain ⟨r0, hr, hF⟩ := F_bind hF
  refine (F_parse_reader_text_w (G := fun r => r = r0) p0 p1 q0 b0_0 x0 h O hq0 hb0_0 hx0 zk0 ok ⟨r0, hr, rfl⟩).mono ?_
  rintro _ _ ⟨r, rfl, rfl, b0_0', x0', yy0, yy1, yy2, ok', rfl⟩
  exact hk _ _ _ hr yy0 yy1 yy2 ok' hF
theorem F_scope_declares_w (p0 : TP) {G : LB × Bool → Prop} (h : Heap) (hF : OptP (F_scope_declares p0) G) : CallsA Tryz.prog 131 [.agg (cP p0)] h fun d h' => ∃ r, G r ∧ d = .tup [.str r.1, .bool r.2] ∧ h' = h := by
  refine CallsA.ret (C_body Tryz.func131 rfl en_131 Tryz.ntmps131 rfl (fun ok => ?_))
  rw [F_scope_declares] at hF
  refine CR (S_box0 rfl rfl rfl rfl (S_a (v := .str nB) rfl (Ab rfl (Sn (CR (S_faQ rfl ty_fd_161_0 ty_sz_9 rfl (S_ldQ rfl (p_one ty_ag_9 ty_sz_9 rfl) (S_call (F_char_Split_ok _ hF fun x1 _ hF => (S_m (v := .tup _) rfl (S_ext rfl rfl (S_ext rfl rfl (S_ext rfl rfl (S_a (v := .str _) rfl (S_a (v := .str _) rfl (Ab rfl (Sn (C_seq (WP_block (CR (Mb rfl (Mb rfl ?_)))))))))))))) (.refl _)))))))))
  refine S_two (b := x1.2.2) 3 19 (.bool (x1.2.2 && (x1.1 == ([120, 109, 108, 110, 115] : LB)))) (fun hb2 => ?_) (fun hb2 => ?_) ?_
  · refine Sx rfl rfl hb2 (Ms rfl (Sn (Sx rfl rfl hb2 (S_bin rfl rfl e_seql (Sn (S_pickT (v := .bool _) rfl hb2 rfl (Sn (.hd (and_t hb2) ?_))))))))
    repeat first | with_reducible exact .refl _ | refine .add ?_ rfl | exact .refl _
  · refine So rfl rfl hb2 (So rfl rfl hb2 (S_pickF (v := .bool _) rfl hb2 rfl (Sn (.hd (and_f hb2) ?_))))
    repeat first | with_reducible exact .refl _ | refine .add ?_ rfl | exact .refl _
  refine Ab rfl (Sn ?_)
  refine C_if (b := (x1.2.2 && (x1.1 == ([120, 109, 108, 110, 115] : LB)))) rfl hF (fun hb3 hF => ?_) (fun hb3 hF => ?_)
  · refine CR (Ms rfl (S_a (v := .str _) rfl (Ab rfl (Sn (WP_ret ?_)))))
    with_reducible repeat first | apply Exit.sr | apply Exit.br | apply Exit.jr
    refine C_ret (fn := Tryz.f131) rfl (.tmp (v := .str x1.2.1) rfl (.tmp (v := .bool true) rfl .nil)) ?_
    exact ⟨_, _, (.refl _), ok.wh, _, F_some hF, rfl, rfl⟩
  · refine CR (S_faQ rfl ty_fd_161_0 ty_sz_9 rfl (S_ldQ rfl (p_one ty_ag_9 ty_sz_9 rfl) (S_bin rfl rfl e_seql (Ab rfl (Sn ?_)))))
    refine C_if (b := (p0.Name == ([120, 109, 108, 110, 115] : LB))) rfl hF (fun hb4 hF => ?_) (fun hb4 hF => ?_)
    · refine CR (S_a (v := .str nB) rfl (Ab rfl (Sn (WP_ret ?_))))
      with_reducible repeat first | apply Exit.sr | apply Exit.br | apply Exit.jr
      refine C_ret (fn := Tryz.f131) rfl (.tmp (v := .str nB) rfl (.tmp (v := .bool true) rfl .nil)) ?_
      exact ⟨_, _, (.refl _), ok.wh, _, F_some hF, rfl, rfl⟩
    · refine WP_skip (CR (S_a (v := .str nB) rfl (Ab rfl (Sn (WP_ret ?_)))))
      with_reducible repeat first | apply Exit.sr | apply Exit.br | apply Exit.jr
      refine C_ret (fn := Tryz.f131) rfl (.tmp (v := .str nB) rfl (.tmp (v := .bool false) rfl .nil)) ?_
      exact ⟨_, _, (.refl _), ok.wh, _, F_some hF, rfl, rfl⟩
theorem F_scope_declares_ok {β : Type} {f : LB × Bool → Option β} {G : β → Prop} {R : D → Heap → Prop} {p0 : TP} (h : Heap) (hF : OptP ((F_scope_declares p0).bind f) G) (hk : ∀ r, F_scope_declares p0 = some r → OptP (f r) G → R (.tup [.str r.1, .bool r.2]) h) : CallsA Tryz.prog 131 [.agg (cP p0)] h R := by
  obtain ⟨r0, hr, hF⟩ := F_bind hF
  refine (F_scope_declares_w (G := fun r => r = r0) p0 h ⟨r0, hr, rfl⟩).mono ?_
  rintro _ _ ⟨r, rfl, rfl, rfl⟩
  exact hk _ hr hF
theorem F_scope_wrong_w (p0 : LB) (p1 : LB) {G : Int → Prop} (h : Heap) (hF : OptP (F_scope_wrong p0 p1) G) : CallsA Tryz.prog 132 [.str p0, .str p1] h fun d h' => ∃ r, G r ∧ d = .I r ∧ h' = h := by
  refine CallsA.ret (C_body Tryz.func132 rfl en_132 Tryz.ntmps132 rfl (fun ok => ?_))
  rw [F_scope_wrong] at hF
  refine CR (Ai rfl (Sn (C_seq (WP_block ?_))))
  refine C_join hF (fun (a3 : Bool) s' => OK h [] ∧ WS s' ⟨mkSl 26 [(0, .str p0), (1, .str p1), (5, .bool a3)], Hp h []⟩) (fun J4 hF => ?_) ?_
  · refine CR (Ms rfl (S_bin rfl rfl e_seql (Ab rfl (Sn ?_))))
    refine C_if (b := (p0 == ([120, 109, 108, 110, 115] : LB))) rfl hF (fun hb5 hF => ?_) (fun hb5 hF => ?_)
    · refine WP_skip ?_
      exact ⟨(p0 == ([120, 109, 108, 110, 115] : LB)), hF, ok, WS.mk' (.k (.k (.k .nil))) ok (.refl _)⟩
    · refine CR (Ms rfl (S_bin rfl rfl e_seql (Ab rfl (Sn ?_))))
      refine C_if (b := (p1 == ([104, 116, 116, 112, 58, 47, 47, 119, 119, 119, 46, 119, 51, 46, 111, 114, 103, 47, 50, 48, 48, 48, 47, 120, 109, 108, 110, 115, 47] : LB))) rfl hF (fun hb6 hF => ?_) (fun hb6 hF => ?_)
      · refine WP_skip ?_
        exact ⟨(p1 == ([104, 116, 116, 112, 58, 47, 47, 119, 119, 119, 46, 119, 51, 46, 111, 114, 103, 47, 50, 48, 48, 48, 47, 120, 109, 108, 110, 115, 47] : LB)), hF, ok, WS.mk' (.k (.k (.k .nil))) ok (.refl _)⟩
      · refine C_reg (mdl []) (Ms rfl (S_bin rfl rfl e_seql (Ms rfl (S_bin rfl rfl e_seql (S_bin rfl rfl (e_bne ty_bo_4) (Ab rfl (Sn ?_)))))))
        exact ⟨(!((p0 == ([120, 109, 108] : LB)) == (p1 == ([104, 116, 116, 112, 58, 47, 47, 119, 119, 119, 46, 119, 51, 46, 111, 114, 103, 47, 88, 77, 76, 47, 49, 57, 57, 56, 47, 110, 97, 109, 101, 115, 112, 97, 99, 101] : LB)))), hF, ok, WS.mk' (.k (.k (.k .nil))) ok (.refl _)⟩
  · rintro a3 s' hF ⟨ok, hws⟩
    refine WP_ws hws ?_
    clear hws s'
    refine C_if (b := a3) rfl hF (fun hb7 hF => ?_) (fun hb7 hF => ?_)
    · refine CR (Ai rfl (Sn (WP_ret ?_)))
      with_reducible repeat first | apply Exit.sr | apply Exit.br | apply Exit.jr
      refine C_ret (fn := Tryz.f132) rfl (.tmp (v := .I 29) rfl .nil) ?_
      exact ⟨_, _, (.refl _), ok.wh, _, F_some hF, rfl, rfl⟩
    · refine CR (Ms rfl (S_bin rfl rfl e_sneq (Mb rfl ?_)))
      refine S_two (b := (!(p0 == nB))) 3 21 (.bool ((!(p0 == nB)) && (p1 == nB))) (fun hb8 => ?_) (fun hb8 => ?_) ?_
      · refine Sx rfl rfl hb8 (Ms rfl (Sn (Sx rfl rfl hb8 (S_bin rfl rfl e_seql (Sn (S_pickT (v := .bool _) rfl hb8 rfl (Sn (.hd (and_t hb8) ?_))))))))
        repeat first | with_reducible exact .refl _ | refine .add ?_ rfl | exact .refl _
      · refine So rfl rfl hb8 (So rfl rfl hb8 (S_pickF (v := .bool _) rfl hb8 rfl (Sn (.hd (and_f hb8) ?_))))
        repeat first | with_reducible exact .refl _ | refine .add ?_ rfl | exact .refl _
      refine Ab rfl (Sn ?_)
      refine C_if (b := ((!(p0 == nB)) && (p1 == nB))) rfl hF (fun hb9 hF => ?_) (fun hb9 hF => ?_)
      · refine CR (Ai rfl (Sn (WP_ret ?_)))
        with_reducible repeat first | apply Exit.sr | apply Exit.br | apply Exit.jr
        refine C_ret (fn := Tryz.f132) rfl (.tmp (v := .I 28) rfl .nil) ?_
        exact ⟨_, _, (.refl _), ok.wh, _, F_some hF, rfl, rfl⟩
      · refine CR (Ms rfl (S_lenS rfl ty_st_9 (S_bin rfl rfl (ev_gtr ..) (Ab rfl (Sn ?_)))))
        refine C_if (b := (decide ((100 : Int) < (p1.length : Int)))) rfl hF (fun hb10 hF => ?_) (fun hb10 hF => ?_)
        · refine CR (Ai rfl (Sn (WP_ret ?_)))
          with_reducible repeat first | apply Exit.sr | apply Exit.br | apply Exit.jr
          refine C_ret (fn := Tryz.f132) rfl (.tmp (v := .I 6) rfl .nil) ?_
          exact ⟨_, _, (.refl _), ok.wh, _, F_some hF, rfl, rfl⟩
        · refine WP_skip (CR (Ai rfl (Sn (WP_ret ?_))))
          with_reducible repeat first | apply Exit.sr | apply Exit.br | apply Exit.jr
          refine C_ret (fn := Tryz.f132) rfl (.tmp (v := .I 0) rfl .nil) ?_
          exact ⟨_, _, (.refl _), ok.wh, _, F_some hF, rfl, rfl⟩
theorem F_scope_wrong_ok {β : Type} {f : Int → Option β} {G : β → Prop} {R : D → Heap → Prop} {p0 : LB} {p1 : LB} (h : Heap) (hF : OptP ((F_scope_wrong p0 p1).bind f) G) (hk : ∀ r, F_scope_wrong p0 p1 = some r → OptP (f r) G → R (.I r) h) : CallsA Tryz.prog 132 [.str p0, .str p1] h R := by
  obtain ⟨r0, hr, hF⟩ := F_bind hF
  refine (F_scope_wrong_w (G := fun r => r = r0) p0 p1 h ⟨r0, hr, rfl⟩).mono ?_
  rintro _ _ ⟨r, rfl, rfl, rfl⟩
  exact hk _ hr hF
theorem F_slices_Index_string_string_w (p0 : List LB) (p1 : LB) {G : Int → Prop} (h : Heap) (hF : OptP (F_slices_Index_string_string p0 p1) G) : CallsA Tryz.prog 169 [.sl 1 (List.map c_str p0) 0, .str p1] h fun d h' => ∃ r, G r ∧ d = .I r ∧ h' = h := by
  refine CallsA.ret (C_body Tryz.func169 rfl en_169 Tryz.ntmps169 rfl (fun ok => ?_))
  rw [F_slices_Index_string_string] at hF
  refine CR (Ai rfl (Sn ?_))
  refine C_join hF (fun (_ : Unit) s' => OK h [] ∧ WS s' ⟨mkSl 19 [], Hp h []⟩) (fun J5 hF => ?_) ?_
  · refine CR (Ml rfl (S_lenL rfl ty_sl_42 (Mi rfl (Sn (WP_block ?_)))))
    refine C_loop (σ := Int) hF (fun (a6 : Int) s' => OK h [] ∧ WS s' ⟨mkSl 19 [(0, .sl 1 (List.map c_str p0) 0), (1, .str p1), (7, .I (p0.length : Int)), (8, .I a6)], Hp h []⟩) ?_ ?_
    · exact ⟨ok, WS.mk' (.k (.k (.k (.k .nil)))) ok (.refl _)⟩
    · rintro G7 hG8 rec9 a6 s' ih10 hF ⟨ok, hws⟩
      refine WP_ws hws ?_
      clear hws s'
      rw [F_slices_Index_string_string_l0] at hF
      refine CR (S_bin rfl rfl (ev_lss ..) (Sn (C_seq ?_)))
      refine C_if (b := (decide (a6 < (p0.length : Int)))) rfl hF (fun hb11 hF => ?_) (fun hb11 hF => ?_)
      · refine WP_skip (C_seq (WP_block (CR (Mi rfl (Ai rfl (Sn (CR (Ms rfl (Ml rfl (Mi rfl (S_ix rfl rfl ty_sl_42 ty_sz_9 hF (fun x12 _ hF => S_ldQ rfl (p_one ty_ag_9 ty_sz_9 rfl) (S_bin rfl rfl e_seql (Sn ?_))))))))))))))
        refine C_if (b := (p1 == x12)) rfl hF (fun hb13 hF => ?_) (fun hb13 hF => ?_)
        · refine CR (Mi rfl (Ai rfl (Sn (WP_ret ?_))))
          replace hF := hG8 _ (F_some hF)
          with_reducible repeat first | apply Exit.sr | apply Exit.br | apply Exit.jr
          refine C_ret (fn := Tryz.f169) rfl (.tmp (v := .I a6) rfl .nil) ?_
          exact ⟨_, _, (.refl _), ok.wh, _, F_some hF, rfl, rfl⟩
        · refine WP_skip (C_reg (mdl []) (S_bin rfl rfl (ev_add ..) (Mi rfl (Sn (ih10 (IntKind.wrap .i64 (a6 + (1 : Int))) _ hF ?_)))))
          exact ⟨ok, WS.mk' (.k (.k (.k (.k .nil)))) ok (.refl _)⟩
      · refine WP_exit ?_
        simp only [Exit.sel, Exit.blk, Exit.jmp, if_true, if_false, reduceIte, Nat.reduceEqDiff, Nat.succ_ne_zero, Nat.zero_ne_one, Nat.one_ne_zero]
        replace hF := hG8 _ (F_some hF)
        exact ⟨(), hF, ok, WS.mk' .nil ok (.refl _)⟩
  · rintro ⟨⟩ s' hF ⟨ok, hws⟩
    refine WP_ws hws ?_
    clear hws s'
    refine CR (Ai rfl (Sn (WP_ret ?_)))
    with_reducible repeat first | apply Exit.sr | apply Exit.br | apply Exit.jr
    refine C_ret (fn := Tryz.f169) rfl (.tmp (v := .I (-1 : Int)) rfl .nil) ?_
    exact ⟨_, _, (.refl _), ok.wh, _, F_some hF, rfl, rfl⟩
theorem F_slices_Index_string_string_ok {β : Type} {f : Int → Option β} {G : β → Prop} {R : D → Heap → Prop} {p0 : List LB} {p1 : LB} (h : Heap) (hF : OptP ((F_slices_Index_string_string p0 p1).bind f) G) (hk : ∀ r, F_slices_Index_string_string p0 p1 = some r → OptP (f r) G → R (.I r) h) : CallsA Tryz.prog 169 [.sl 1 (List.map c_str p0) 0, .str p1] h R := by
  obtain ⟨r0, hr, hF⟩ := F_bind hF
  refine (F_slices_Index_string_string_w (G := fun r => r = r0) p0 p1 h ⟨r0, hr, rfl⟩).mono ?_
  rintro _ _ ⟨r, rfl, rfl, rfl⟩
  exact hk _ hr hF
theorem F_slices_Contains_string_string_w (p0 : List LB) (p1 : LB) {G : Bool → Prop} (h : Heap) (hF : OptP (F_slices_Contains_string_string p0 p1) G) : CallsA Tryz.prog 133 [.sl 1 (List.map c_str p0) 0, .str p1] h fun d h' => ∃ r, G r ∧ d = .bool r ∧ h' = h := by
  refine CallsA.ret (C_body Tryz.func133 rfl en_133 Tryz.ntmps133 rfl (fun ok => ?_))
  rw [F_slices_Contains_string_string] at hF
  refine CR (Ab rfl (Sn (CR (Ml rfl (Ms rfl (S_call (F_slices_Index_string_string_ok _ hF fun x1 _ hF => (S_bin rfl rfl (ev_geq ..) (Ab rfl (Sn (WP_ret ?_))))) (.refl _)))))))
  with_reducible repeat first | apply Exit.sr | apply Exit.br | apply Exit.jr
  refine C_ret (fn := Tryz.f133) rfl (.tmp (v := .bool (decide ((0 : Int) ≤ x1))) rfl .nil) ?_
  exact ⟨_, _, (.refl _), ok.wh, _, F_some hF, rfl, rfl⟩
theorem F_slices_Contains_string_string_ok {β : Type} {f : Bool → Option β} {G : β → Prop} {R : D → Heap → Prop} {p0 : List LB} {p1 : LB} (h : Heap) (hF : OptP ((F_slices_Contains_string_string p0 p1).bind f) G) (hk : ∀ r, F_slices_Contains_string_string p0 p1 = some r → OptP (f r) G → R (.bool r) h) : CallsA Tryz.prog 133 [.sl 1 (List.map c_str p0) 0, .str p1] h R := by
  obtain ⟨r0, hr, hF⟩ := F_bind hF
  refine (F_slices_Contains_string_string_w (G := fun r => r = r0) p0 p1 h ⟨r0, hr, rfl⟩).mono ?_
  rintro _ _ ⟨r, rfl, rfl, rfl⟩
  exact hk _ hr hF
theorem F_scope_Scope_Open_1_w (p0 : T_scope_bind) (p1 : LB) {G : Bool → Prop} (h : Heap) (hF : OptP (F_scope_Scope_Open_1 p0 p1) G) : CallsA Tryz.prog 135 [.agg (c_T_scope_bind p0), .iptr [.str p1]] h fun d h' => ∃ r, G r ∧ d = .bool r ∧ h' = h := by
  refine CallsA.ret (C_body Tryz.func135 rfl en_135 Tryz.ntmps135 rfl (fun ok => ?_))
  rw [F_scope_Scope_Open_1] at hF
  refine CR (S_box0 rfl rfl rfl rfl (Ab rfl (Sn (CR (S_faQ rfl ty_fd_170_0 ty_sz_9 rfl (S_ldQ rfl (p_one ty_ag_9 ty_sz_9 rfl) (S_ldQ rfl (p_one ty_ag_9 ty_sz_9 rfl) (S_bin rfl rfl e_seql (Ab rfl (Sn (WP_ret ?_)))))))))))
  with_reducible repeat first | apply Exit.sr | apply Exit.br | apply Exit.jr
  refine C_ret (fn := Tryz.f135) rfl (.tmp (v := .bool (p0.prefix_ == p1)) rfl .nil) ?_
  exact ⟨_, _, (.refl _), ok.wh, _, F_some hF, rfl, rfl⟩
theorem F_slices_IndexFunc_scope_bind_scope_bind_w (p0 : List T_scope_bind) (p1 : T_scope_bind → Option Bool) (f1 : FuncId) (fi1 : List D) (ca1 : List D) (b0 : Nat) {G : Int → Prop} (h : Heap) (O : List (Nat × AObj)) (hf1 : ∀ (x0 : T_scope_bind) (G : Bool → Prop) (h : Heap), OptP (p1 x0) G → CallsA Tryz.prog f1 (fi1 ++ [.agg (c_T_scope_bind x0)] ++ ca1) h fun d h' => ∃ r, G r ∧ d = .bool r ∧ h' = h) (zb0 : b0 = 0 → p0 = []) (ok : OK h (mo b0 c_T_scope_bind p0 :: O)) (hF : OptP (F_slices_IndexFunc_scope_bind_scope_bind p0 p1) G) : CallsA Tryz.prog 170 [mslO 2 b0 p0, .fn (.func f1) fi1 ca1] (Hp h (mo b0 c_T_scope_bind p0 :: O)) fun d h' => ∃ r, G r ∧ d = .I r ∧ OK h (mo b0 c_T_scope_bind p0 :: O) ∧ h' = Hp h (mo b0 c_T_scope_bind p0 :: O) := by
  refine CallsA.ret (C_bodyO Tryz.func170 rfl en_170 Tryz.ntmps170 rfl ?_)
  rw [F_slices_IndexFunc_scope_bind_scope_bind] at hF
  refine CR (Ai rfl (Sn ?_))
  refine C_join hF (fun (_ : Unit) s' => OK h (mo b0 c_T_scope_bind p0 :: O) ∧ WS s' ⟨mkSl 19 [], Hp h (mo b0 c_T_scope_bind p0 :: O)⟩) (fun J6 hF => ?_) ?_
  · refine CR (S_m (v := mslO _ _ _) rfl (S_lenO zb0 rfl ty_sl_55 (Mi rfl (Sn (WP_block ?_)))))
    refine C_loop (σ := Int) hF (fun (a7 : Int) s' => OK h (mo b0 c_T_scope_bind p0 :: O) ∧ WS s' ⟨mkSl 19 [(0, mslO 2 b0 p0), (1, .fn (.func f1) fi1 ca1), (7, .I (p0.length : Int)), (8, .I a7)], Hp h (mo b0 c_T_scope_bind p0 :: O)⟩) ?_ ?_
    · exact ⟨ok, WS.mk' (.k (.k (.k (.k .nil)))) ok (.refl _)⟩
    · rintro G8 hG9 rec10 a7 s' ih11 hF ⟨ok, hws⟩
      refine WP_ws hws ?_
      clear hws s'
      rw [F_slices_IndexFunc_scope_bind_scope_bind_l0] at hF
      refine CR (S_bin rfl rfl (ev_lss ..) (Sn (C_seq ?_)))
      refine C_if (b := (decide (a7 < (p0.length : Int)))) rfl hF (fun hb12 hF => ?_) (fun hb12 hF => ?_)
      · refine WP_skip (C_seq (WP_block (CR (Mi rfl (Ai rfl (Sn (CR (S_m (v := .fn (.func _) _ _) rfl (S_m (v := mslO _ _ _) rfl (Mi rfl (S_ixO zb0 rfl rfl ty_sl_55 ty_sz_170 hF (fun x13 hx13 hF => S_ldO (q := 2) (j := 0) (f0 := 0) ok rfl zb0 rfl rfl (fun _ => rfl) hx13 rfl rfl (p_agg (vs := c_T_scope_bind x13) ty_ag_170 ty_sz_170 rfl rfl) (S_callV rfl (ok_of (enc := fun r => .bool r) (fun G h hF => hf1 x13 G h hF) _ hF fun x14 _ hF => (Sn ?_)) (.app (.app (.refl _) (.refl _)) (.refl _)))))))))))))))
        refine C_if (b := x14) rfl hF (fun hb15 hF => ?_) (fun hb15 hF => ?_)
        · refine CR (Mi rfl (Ai rfl (Sn (WP_ret ?_))))
          replace hF := hG9 _ (F_some hF)
          with_reducible repeat first | apply Exit.sr | apply Exit.br | apply Exit.jr
          refine C_ret (fn := Tryz.f170) rfl (.tmp (v := .I a7) rfl .nil) ?_
          exact ⟨_, _, (.refl _), .refl _, _, F_some hF, rfl, ok, rfl⟩
        · refine WP_skip (C_reg (mdl []) (S_bin rfl rfl (ev_add ..) (Mi rfl (Sn (ih11 (IntKind.wrap .i64 (a7 + (1 : Int))) _ hF ?_)))))
          exact ⟨ok, WS.mk' (.k (.k (.k (.k .nil)))) ok (.refl _)⟩
      · refine WP_exit ?_
        simp only [Exit.sel, Exit.blk, Exit.jmp, if_true, if_false, reduceIte, Nat.reduceEqDiff, Nat.succ_ne_zero, Nat.zero_ne_one, Nat.one_ne_zero]
        replace hF := hG9 _ (F_some hF)
        exact ⟨(), hF, ok, WS.mk' .nil ok (.refl _)⟩
  · rintro ⟨⟩ s' hF ⟨ok, hws⟩
    refine WP_ws hws ?_
    clear hws s'
    refine CR (Ai rfl (Sn (WP_ret ?_)))
    with_reducible repeat first | apply Exit.sr | apply Exit.br | apply Exit.jr
    refine C_ret (fn := Tryz.f170) rfl (.tmp (v := .I (-1 : Int)) rfl .nil) ?_
    exact ⟨_, _, (.refl _), .refl _, _, F_some hF, rfl, ok, rfl⟩
theorem F_slices_IndexFunc_scope_bind_scope_bind_ok {β : Type} {f0 : Int → Option β} {G : β → Prop} {R : D → Heap → Prop} {p0 : List T_scope_bind} {p1 : T_scope_bind → Option Bool} {f1 : FuncId} {fi1 : List D} {ca1 : List D} {b0 : Nat} (h : Heap) (O : List (Nat × AObj)) (hf1 : ∀ (x0 : T_scope_bind) (G : Bool → Prop) (h : Heap), OptP (p1 x0) G → CallsA Tryz.prog f1 (fi1 ++ [.agg (c_T_scope_bind x0)] ++ ca1) h fun d h' => ∃ r, G r ∧ d = .bool r ∧ h' = h) (zb0 : b0 = 0 → p0 = []) (ok : OK h (mo b0 c_T_scope_bind p0 :: O)) (hF : OptP ((F_slices_IndexFunc_scope_bind_scope_bind p0 p1).bind f0) G) (hk : ∀ r, F_slices_IndexFunc_scope_bind_scope_bind p0 p1 = some r → OK h (mo b0 c_T_scope_bind p0 :: O) → OptP (f0 r) G → R (.I r) (Hp h (mo b0 c_T_scope_bind p0 :: O))) : CallsA Tryz.prog 170 [mslO 2 b0 p0, .fn (.func f1) fi1 ca1] (Hp h (mo b0 c_T_scope_bind p0 :: O)) R := by
  obtain ⟨r0, hr, hF⟩ := F_bind hF
  refine (F_slices_IndexFunc_scope_bind_scope_bind_w (G := fun r => r = r0) p0 p1 f1 fi1 ca1 b0 h O hf1 zb0 ok ⟨r0, hr, rfl⟩).mono ?_
  rintro _ _ ⟨r, rfl, rfl, ok', rfl⟩
  exact hk _ hr ok' hF
theorem F_slices_DeleteFunc_scope_bind_scope_bind_w (p0 : List T_scope_bind) (p1 : T_scope_bind → Option Bool) (f1 : FuncId) (fi1 : List D) (ca1 : List D) (b0 : Nat) {G : List T_scope_bind → Prop} (h : Heap) (O : List (Nat × AObj)) (hf1 : ∀ (x0 : T_scope_bind) (G : Bool → Prop) (h : Heap), OptP (p1 x0) G → CallsA Tryz.prog f1 (fi1 ++ [.agg (c_T_scope_bind x0)] ++ ca1) h fun d h' => ∃ r, G r ∧ d = .bool r ∧ h' = h) (zb0 : b0 = 0 → p0 = []) (ok : OK h (mo b0 c_T_scope_bind p0 :: O)) (hF : OptP (F_slices_DeleteFunc_scope_bind_scope_bind p0 p1) G) : CallsA Tryz.prog 134 [mslO 2 b0 p0, .fn (.func f1) fi1 ca1] (Hp h (mo b0 c_T_scope_bind p0 :: O)) fun d h' => ∃ r, G r ∧ d = mslO 2 b0 r ∧ (b0 = 0 → r = []) ∧ OK h (mo b0 c_T_scope_bind r :: O) ∧ h' = Hp h (mo b0 c_T_scope_bind r :: O) := by
  refine CallsA.ret (C_bodyO Tryz.func134 rfl en_134 Tryz.ntmps134 rfl ?_)
  rw [F_slices_DeleteFunc_scope_bind_scope_bind] at hF
  refine CR (S_a (v := .snil) rfl (S_one 4 (v := .sl 2 (List.map c_T_scope_bind ([] : List T_scope_bind)) 0) (.nil _) (Sn (CR (S_m (v := mslO _ _ _) rfl (S_m (v := .fn (.func _) _ _) rfl (S_call (F_slices_IndexFunc_scope_bind_scope_bind_ok (p0 := p0) (f1 := f1) (fi1 := fi1) (ca1 := ca1) (b0 := b0) h _ hf1 zb0 ok hF fun x1 _  ok hF => (Ai rfl (Sn (C_seq (CR (Mi rfl (S_bin rfl rfl (ev_eql ..) (Sn ?_)))))))) (.refl _))))))))
  refine C_if (b := (x1 == (-1 : Int))) rfl hF (fun hb2 hF => ?_) (fun hb2 hF => ?_)
  · refine CR (S_m (v := mslO _ _ _) rfl (S_a (v := mslO _ _ _) rfl (Sn (WP_ret ?_))))
    with_reducible repeat first | apply Exit.sr | apply Exit.br | apply Exit.jr
    refine C_ret (fn := Tryz.f134) rfl (.tmp (v := mslO 2 b0 p0) rfl .nil) ?_
    exact ⟨_, _, (.refl _), .refl _, _, F_some hF, rfl, zb0, ok, rfl⟩
  · refine WP_skip (C_seq (C_seq ?_))
    exact F_none hF
theorem F_slices_DeleteFunc_scope_bind_scope_bind_ok {β : Type} {f0 : List T_scope_bind → Option β} {G : β → Prop} {R : D → Heap → Prop} {p0 : List T_scope_bind} {p1 : T_scope_bind → Option Bool} {f1 : FuncId} {fi1 : List D} {ca1 : List D} {b0 : Nat} (h : Heap) (O : List (Nat × AObj)) (hf1 : ∀ (x0 : T_scope_bind) (G : Bool → Prop) (h : Heap), OptP (p1 x0) G → CallsA Tryz.prog f1 (fi1 ++ [.agg (c_T_scope_bind x0)] ++ ca1) h fun d h' => ∃ r, G r ∧ d = .bool r ∧ h' = h) (zb0 : b0 = 0 → p0 = []) (ok : OK h (mo b0 c_T_scope_bind p0 :: O)) (hF : OptP ((F_slices_DeleteFunc_scope_bind_scope_bind p0 p1).bind f0) G) (hk : ∀ r, F_slices_DeleteFunc_scope_bind_scope_bind p0 p1 = some r → (b0 = 0 → r = []) → OK h (mo b0 c_T_scope_bind r :: O) → OptP (f0 r) G → R (mslO 2 b0 r) (Hp h (mo b0 c_T_scope_bind r :: O))) : CallsA Tryz.prog 134 [mslO 2 b0 p0, .fn (.func f1) fi1 ca1] (Hp h (mo b0 c_T_scope_bind p0 :: O)) R := by
  obtain ⟨r0, hr, hF⟩ := F_bind hF
  refine (F_slices_DeleteFunc_scope_bind_scope_bind_w (G := fun r => r = r0) p0 p1 f1 fi1 ca1 b0 h O hf1 zb0 ok ⟨r0, hr, rfl⟩).mono ?_
  rintro _ _ ⟨r, rfl, rfl, y0, ok', rfl⟩
  exact hk _ hr y0 ok' hF
theorem F_scope_Scope_Open_w (p0 : T_scope_Scope) (p1 : List TP) {G : T_scope_Scope × Int → Prop} (h : Heap) (hF : OptP (F_scope_Scope_Open p0 p1) G) : CallsA Tryz.prog 87 [.agg (c_T_scope_Scope p0), .sl 2 (List.map cP p1) 0] h fun d h' => ∃ r, G r ∧ d = .tup [.agg (c_T_scope_Scope r.1), .I r.2] ∧ h' = h := by
  refine CallsA.ret (C_body Tryz.func87 rfl en_87 Tryz.ntmps87 rfl (fun ok => ?_))
  rw [F_scope_Scope_Open] at hF
  refine C_seq (C_reg (mdl [(4, 1)]) (S_box0 rfl rfl rfl rfl (S_all1 ok rfl ty_zc_57 ?_)))
  intro i1 hi1 ok
  refine Ai rfl (Sn (CR (S_a (v := .snil) rfl (S_ghost 6 1 ok rfl rfl ?_))))
  intro r2 hr2 ok
  refine Sn (CR (S_faQ rfl ty_fd_57_0 ty_sz_55 rfl (S_ldQ rfl (p_one ty_ag_55 ty_sz_55 rfl) (S_call (Clone_ok h [(r2, .room), (i1, .cells [.snil])] ok hF fun x3 u4 zu4 ok hF => (S_a (v := mslO _ _ _) rfl (Sn ?_))) (.cons (.refl _) .nil)))))
  refine C_join hF (fun (v : (List T_scope_bind) × (List T_scope_bind)) s' => match v with | (a52, a54) => ∃ g53 : Nat, (g53 = 0 → a54 = []) ∧ OK h [mo g53 c_T_scope_bind a54, (i1, .cells [.sl 2 (List.map c_T_scope_bind a52) 0])] ∧ WS s' ⟨mkSl 65 [(4, .ptr i1 0), (7, mslO 2 g53 a54)], Hp h [mo g53 c_T_scope_bind a54, (i1, .cells [.sl 2 (List.map c_T_scope_bind a52) 0])]⟩) (fun J55 hF => ?_) ?_
  · refine CR (Ml rfl (S_lenL rfl ty_sl_64 (Mi rfl (Sn (WP_block ?_)))))
    refine C_loop (σ := (List T_scope_bind) × (List LB) × (List T_scope_bind) × Int) hF (fun (v : (List T_scope_bind) × (List LB) × (List T_scope_bind) × Int) s' => match v with | (a56, a57, a60, a61) => ∃ g58 g59 : Nat, g58 ≠ 0 ∧ (g59 = 0 → a60 = []) ∧ OK h [mo g59 c_T_scope_bind a60, (g58, .room), (i1, .cells [.sl 2 (List.map c_T_scope_bind a56) 0])] ∧ WS s' ⟨mkSl 65 [(4, .ptr i1 0), (6, .sl 1 (List.map c_str a57) g58), (7, mslO 2 g59 a60), (16, .sl 2 (List.map cP p1) 0), (17, .I (p1.length : Int)), (18, .I a61)], Hp h [mo g59 c_T_scope_bind a60, (g58, .room), (i1, .cells [.sl 2 (List.map c_T_scope_bind a56) 0])]⟩) ?_ ?_
    · have hwo : WO [mo u4 c_T_scope_bind x3, (r2, .room), (i1, .cells [.snil])] [mo u4 c_T_scope_bind x3, (r2, .room), (i1, .cells [.sl 2 (List.map c_T_scope_bind ([] : List T_scope_bind)) 0])] := (.keep (.keep (.weak (.cons (.nil _) (.nil)) .nil)))
      exact ⟨r2, u4, hr2, zu4, (hwo.spec ok).1, WS.mk' (.k (.k (.k (.k (.k (.k .nil)))))) ok hwo⟩
    · rintro G62 hG63 rec64 ⟨a56, a57, a60, a61⟩ s' ih65 hF ⟨g58, g59, hg58, zg59, ok, hws⟩
      refine WP_ws hws ?_
      clear hws s'
      rw [F_scope_Scope_Open_l0] at hF
      refine CR (S_bin rfl rfl (ev_lss ..) (Sn (C_seq ?_)))
      refine C_if (b := (decide (a61 < (p1.length : Int)))) rfl hF (fun hb66 hF => ?_) (fun hb66 hF => ?_)
      · refine WP_skip ?_
        refine C_join hF (fun (v : (List LB) × (List T_scope_bind)) s' => match v with | (a85, a88) => ∃ g86 g87 : Nat, g86 ≠ 0 ∧ (g87 = 0 → a88 = []) ∧ OK h [mo g87 c_T_scope_bind a88, (g86, .room), (i1, .cells [.sl 2 (List.map c_T_scope_bind a56) 0])] ∧ WS s' ⟨mkSl 65 [(4, .ptr i1 0), (6, .sl 1 (List.map c_str a85) g86), (7, mslO 2 g87 a88), (16, .sl 2 (List.map cP p1) 0), (17, .I (p1.length : Int)), (18, .I a61)], Hp h [mo g87 c_T_scope_bind a88, (g86, .room), (i1, .cells [.sl 2 (List.map c_T_scope_bind a56) 0])]⟩) (fun J89 hF => ?_) ?_
        · refine WP_block (C_seq (C_reg (mdl [(9, 1)]) (S_ix rfl rfl ty_sl_64 ty_sz_161 hF (fun x90 _ hF => S_ldQ rfl (p_agg (vs := cP x90) ty_ag_161 ty_sz_161 rfl rfl) (S_all1 ok rfl ty_zc_161 ?_)))))
          intro i91 hi91 ok
          refine S_st (j := 0) (cs' := [.str x90.Name, .str x90.Value]) ok rfl rfl rfl hi91 rfl ty_sz_161 rfl rfl (fun ok => Sn (C_seq (C_reg (mdl [(10, 1)]) (S_ldP (j := 0) ok rfl rfl rfl hi91 (p_agg (vs := cP x90) ty_ag_161 ty_sz_161 rfl rfl) (S_call (F_scope_declares_ok _ hF fun x92 _ hF => (S_m (v := .tup _) rfl (S_ext rfl rfl (S_ext rfl rfl (S_all1 ok rfl ty_zc_9 ?_))))) (.refl _))))))
          intro i93 hi93 ok
          refine S_st (j := 0) (cs' := [.str x92.1]) ok rfl rfl rfl hi93 rfl ty_sz_9 rfl rfl (fun ok => Ab rfl (Sn (C_seq (CR (Mb rfl (S_un rfl (ev_not _) (Sn ?_)))))))
          refine C_if (b := (!x92.2)) rfl hF (fun hb94 hF => ?_) (fun hb94 hF => ?_)
          · refine WP_exit ?_
            simp only [Exit.sel, Exit.blk, Exit.jmp, if_true, if_false, reduceIte, Nat.reduceEqDiff, Nat.succ_ne_zero, Nat.zero_ne_one, Nat.one_ne_zero]
            have hwo : WO [(i93, .cells [.str x92.1]), (i91, .cells [.str x90.Name, .str x90.Value]), mo g59 c_T_scope_bind a60, (g58, .room), (i1, .cells [.sl 2 (List.map c_T_scope_bind a56) 0])] [mo g59 c_T_scope_bind a60, (g58, .room), (i1, .cells [.sl 2 (List.map c_T_scope_bind a56) 0])] := (.drop (.drop (.keep (.keep (.keep .nil)))))
            exact ⟨(a57, a60), hF, g58, g59, hg58, zg59, (hwo.spec ok).1, WS.mk' (.k (.k (.k (.k (.k (.k .nil)))))) ok hwo⟩
          · refine WP_skip (C_seq (CR (S_ldP (j := 0) ok rfl rfl rfl hi93 (p_one (v := .str x92.1) ty_ag_9 ty_sz_9 rfl) (S_faP rfl ty_fd_161_1 ty_sz_9 (S_ldP (j := 1) ok rfl rfl rfl hi91 (p_one (v := .str x90.Value) ty_ag_9 ty_sz_9 rfl) (S_call (F_scope_wrong_ok _ hF fun x95 _ hF => (Ai rfl (Sn (CR (Mi rfl (S_bin rfl rfl (ev_neq ..) (Sn ?_))))))) (.refl _)))))))
            refine C_if (b := (x95 != (0 : Int))) rfl hF (fun hb96 hF => ?_) (fun hb96 hF => ?_)
            · refine CR (S_bld (v := .agg [.snil]) (b_st ty_zc_57 ty_pl_57 rfl) (S_one 35 (v := .agg (c_T_scope_Scope (⟨([] : List T_scope_bind)⟩ : T_scope_Scope))) (.aggC (.cons (.nil _) (.nil))) (Mi rfl (S_st (j := 4) (cs' := [.sl 2 (List.map c_T_scope_bind (⟨([] : List T_scope_bind)⟩ : T_scope_Scope).binds) 0]) ok rfl rfl rfl hi1 rfl ty_sz_57 rfl rfl (fun ok => Ai rfl (Sn (WP_ret ?_)))))))
              replace hF := hG63 _ (F_some hF)
              with_reducible repeat first | apply Exit.sr | apply Exit.br | apply Exit.jr
              refine C_ret (fn := Tryz.f87) rfl (.cell rfl (ld_ptr (j := 4) ok rfl hi1 (p_agg (vs := [.sl 2 (List.map c_T_scope_bind (⟨([] : List T_scope_bind)⟩ : T_scope_Scope).binds) 0]) ty_ag_57 ty_sz_57 rfl rfl)) (.tmp (v := .I x95) rfl .nil)) ?_
              exact ⟨_, _, (.refl _), ok.wh, _, F_some hF, rfl, rfl⟩
            · refine WP_skip (C_seq (CR (Ml rfl (S_one 37 (v := .sl 1 (List.map c_str a57) 0) (.zero _ _ _) (S_ldP (j := 0) ok rfl rfl rfl hi93 (p_one (v := .str x92.1) ty_ag_9 ty_sz_9 rfl) (S_call (F_slices_Contains_string_string_ok _ hF fun x97 _ hF => (Sn ?_)) (.refl _)))))))
              refine C_if (b := x97) rfl hF (fun hb98 hF => ?_) (fun hb98 hF => ?_)
              · refine CR (S_bld (v := .agg [.snil]) (b_st ty_zc_57 ty_pl_57 rfl) (S_one 40 (v := .agg (c_T_scope_Scope (⟨([] : List T_scope_bind)⟩ : T_scope_Scope))) (.aggC (.cons (.nil _) (.nil))) (S_st (j := 4) (cs' := [.sl 2 (List.map c_T_scope_bind (⟨([] : List T_scope_bind)⟩ : T_scope_Scope).binds) 0]) ok rfl rfl rfl hi1 rfl ty_sz_57 rfl rfl (fun ok => Ai rfl (Sn (WP_ret ?_))))))
                replace hF := hG63 _ (F_some hF)
                with_reducible repeat first | apply Exit.sr | apply Exit.br | apply Exit.jr
                refine C_ret (fn := Tryz.f87) rfl (.cell rfl (ld_ptr (j := 4) ok rfl hi1 (p_agg (vs := [.sl 2 (List.map c_T_scope_bind (⟨([] : List T_scope_bind)⟩ : T_scope_Scope).binds) 0]) ty_ag_57 ty_sz_57 rfl rfl)) (.tmp (v := .I 27) rfl .nil)) ?_
                exact ⟨_, _, (.refl _), ok.wh, _, F_some hF, rfl, rfl⟩
              · refine WP_skip (C_seq (C_reg (mdl [(44, 2)]) (Ml rfl (S_ldP (j := 0) ok rfl rfl rfl hi93 (p_one (v := .str x92.1) ty_ag_9 ty_sz_9 rfl) ?_))))
                refine S_lit0 (cs := [.str x92.1]) (es := (List.map c_str [x92.1])) rfl ty_el_42 rfl (by kernel_rfl) (by kernel_rfl) ?_
                refine S_app (j := 3) ok rfl rfl rfl rfl hg58 ty_el_42 ty_ni_42 hF ?_
                intro r99 hr99 ok hF
                refine S_a (v := .sl _ _ _) rfl (Sn (CR (S_frzP 0 10 ok rfl rfl hi93 (fun ok => S_m (v := mslO _ _ _) rfl (S_mkF (ca := [.iptr (c_str x92.1)]) rfl ?_)))))
                obtain ⟨hpe, ok⟩ := Hp_pull 2 ok rfl
                rw [hpe]; clear hpe
                refine S_call (F_slices_DeleteFunc_scope_bind_scope_bind_ok (p0 := a60) (f1 := 135) (fi1 := []) (ca1 := [.iptr (c_str x92.1)]) (b0 := g59) h [(0, .room), (i91, .cells [.str x90.Name, .str x90.Value]), (r99, .room), (i1, .cells [.sl 2 (List.map c_T_scope_bind a56) 0])] (fun z0 G h hF => F_scope_Scope_Open_1_w z0 x92.1 h hF) zg59 ok hF fun x102 _ zr103 ok hF => (S_a (v := mslO _ _ _) rfl (Sn (CR (S_ldQ rfl (p_one ty_ag_9 ty_sz_9 rfl) (S_bin rfl rfl e_sneq (Mb rfl ?_))))))) (.refl _)
                refine S_two (b := (!(x92.1 == ([120, 109, 108] : LB)))) 4 54 (.bool ((!(x92.1 == ([120, 109, 108] : LB))) && (!(x90.Value == nB)))) (fun hb104 => ?_) (fun hb104 => ?_) ?_
                · refine Sx rfl rfl hb104 (S_faP rfl ty_fd_161_1 ty_sz_9 (Sn (Sx rfl rfl hb104 (S_ldP (j := 2) ok rfl rfl rfl hi91 (p_one (v := .str x90.Value) ty_ag_9 ty_sz_9 rfl) (Sn (Sx rfl rfl hb104 (S_bin rfl rfl e_sneq (Sn (S_pickT (v := .bool _) rfl hb104 rfl (Sn (.hd (and_t hb104) ?_)))))))))))
                  repeat first | with_reducible exact .refl _ | refine .add ?_ rfl | exact .refl _
                · refine So rfl rfl hb104 (So rfl rfl hb104 (So rfl rfl hb104 (S_pickF (v := .bool _) rfl hb104 rfl (Sn (.hd (and_f hb104) ?_)))))
                  repeat first | with_reducible exact .refl _ | refine .add ?_ rfl | exact .refl _
                refine Sn ?_
                refine C_if (b := ((!(x92.1 == ([120, 109, 108] : LB))) && (!(x90.Value == nB)))) rfl hF (fun hb105 hF => ?_) (fun hb105 hF => ?_)
                · refine C_reg (mdl [(61, 1)]) (S_m (v := mslO _ _ _) rfl (S_ldQ rfl (p_one ty_ag_9 ty_sz_9 rfl) (S_faP rfl ty_fd_161_1 ty_sz_9 (S_ldP (j := 2) ok rfl rfl rfl hi91 (p_one (v := .str x90.Value) ty_ag_9 ty_sz_9 rfl) (S_bld (v := .agg (c_T_scope_bind (⟨x92.1, x90.Value⟩ : T_scope_bind))) (b_st ty_zc_170 ty_pl_170 rfl) ?_)))))
                  refine S_lit0 (cs := [.str (⟨x92.1, x90.Value⟩ : T_scope_bind).prefix_, .str (⟨x92.1, x90.Value⟩ : T_scope_bind).uri]) (es := (List.map c_T_scope_bind [(⟨x92.1, x90.Value⟩ : T_scope_bind)])) rfl ty_el_55 rfl (by kernel_rfl) (by kernel_rfl) ?_
                  refine S_appO (j := 0) (M := [(⟨x92.1, x90.Value⟩ : T_scope_bind)]) ok zr103 rfl rfl src_sl (fun _ => rfl) rfl ty_el_55 ty_ni_55 hF ?_
                  intro u106 zu106 ok hF
                  obtain ⟨a107, ha107, hF⟩ := F_let hF
                  rw [← ha107] at ok zu106
                  rw [← ha107]
                  refine S_a (v := mslO _ _ _) rfl (Sn ?_)
                  have hwo : WO [mo u106 c_T_scope_bind a107, (0, .room), (i91, .cells [.str x90.Name, .str x90.Value]), (r99, .room), (i1, .cells [.sl 2 (List.map c_T_scope_bind a56) 0])] [mo u106 c_T_scope_bind a107, (r99, .room), (i1, .cells [.sl 2 (List.map c_T_scope_bind a56) 0])] := (.keep (.drop (.drop (.keep (.keep .nil)))))
                  exact ⟨((a57 ++ [x92.1]), a107), hF, r99, u106, hr99, zu106, (hwo.spec ok).1, WS.mk' (.k (.k (.k (.k (.k (.k .nil)))))) ok hwo⟩
                · refine WP_skip ?_
                  have hwo : WO [mo g59 c_T_scope_bind x102, (0, .room), (i91, .cells [.str x90.Name, .str x90.Value]), (r99, .room), (i1, .cells [.sl 2 (List.map c_T_scope_bind a56) 0])] [mo g59 c_T_scope_bind x102, (r99, .room), (i1, .cells [.sl 2 (List.map c_T_scope_bind a56) 0])] := (.keep (.drop (.drop (.keep (.keep .nil)))))
                  exact ⟨((a57 ++ [x92.1]), x102), hF, r99, g59, hr99, zr103, (hwo.spec ok).1, WS.mk' (.k (.k (.k (.k (.k (.k .nil)))))) ok hwo⟩
        · rintro ⟨a85, a88⟩ s' hF ⟨g86, g87, hg86, zg87, ok, hws⟩
          refine WP_ws hws ?_
          clear hws s'
          refine C_reg (mdl []) (S_bin rfl rfl (ev_add ..) (Mi rfl (Sn (ih65 (a56, a85, a88, (IntKind.wrap .i64 (a61 + (1 : Int)))) _ hF ?_))))
          exact ⟨g86, g87, hg86, zg87, ok, WS.mk' (.k (.k (.k (.k (.k (.k .nil)))))) ok (.refl _)⟩
      · refine WP_exit ?_
        simp only [Exit.sel, Exit.blk, Exit.jmp, if_true, if_false, reduceIte, Nat.reduceEqDiff, Nat.succ_ne_zero, Nat.zero_ne_one, Nat.one_ne_zero]
        replace hF := hG63 _ (F_some hF)
        have hwo : WO [mo g59 c_T_scope_bind a60, (g58, .room), (i1, .cells [.sl 2 (List.map c_T_scope_bind a56) 0])] [mo g59 c_T_scope_bind a60, (i1, .cells [.sl 2 (List.map c_T_scope_bind a56) 0])] := (.keep (.drop (.keep .nil)))
        exact ⟨(a56, a60), hF, g59, zg59, (hwo.spec ok).1, WS.mk' (.k (.k .nil)) ok hwo⟩
  · rintro ⟨a52, a54⟩ s' hF ⟨g53, zg53, ok, hws⟩
    refine WP_ws hws ?_
    clear hws s'
    refine CR (S_m (v := mslO _ _ _) rfl (S_frzO 0 63 ok zg53 rfl rfl (fun _ => rfl) (fun ok => S_bld (v := .agg (c_T_scope_Scope (⟨a54⟩ : T_scope_Scope))) (b_st ty_zc_57 ty_pl_57 rfl) (S_st (j := 1) (cs' := [.sl 2 (List.map c_T_scope_bind (⟨a54⟩ : T_scope_Scope).binds) 0]) ok rfl rfl rfl hi1 rfl ty_sz_57 rfl rfl (fun ok => Ai rfl (Sn (WP_ret ?_)))))))
    with_reducible repeat first | apply Exit.sr | apply Exit.br | apply Exit.jr
    refine C_ret (fn := Tryz.f87) rfl (.cell rfl (ld_ptr (j := 1) ok rfl hi1 (p_agg (vs := [.sl 2 (List.map c_T_scope_bind (⟨a54⟩ : T_scope_Scope).binds) 0]) ty_ag_57 ty_sz_57 rfl rfl)) (.tmp (v := .I 0) rfl .nil)) ?_
    exact ⟨_, _, (.refl _), ok.wh, _, F_some hF, rfl, rfl⟩
theorem F_scope_Scope_Open_ok {β : Type} {f : T_scope_Scope × Int → Option β} {G : β → Prop} {R : D → Heap → Prop} {p0 : T_scope_Scope} {p1 : List TP} (h : Heap) (hF : OptP ((F_scope_Scope_Open p0 p1).bind f) G) (hk : ∀ r, F_scope_Scope_Open p0 p1 = some r → OptP (f r) G → R (.tup [.agg (c_T_scope_Scope r.1), .I r.2]) h) : CallsA Tryz.prog 87 [.agg (c_T_scope_Scope p0), .sl 2 (List.map cP p1) 0] h R := by
  obtain ⟨r0, hr, hF⟩ := F_bind hF
  refine (F_scope_Scope_Open_w (G := fun r => r = r0) p0 p1 h ⟨r0, hr, rfl⟩).mono ?_
  rintro _ _ ⟨r, rfl, rfl, rfl⟩
  exact hk _ hr hF
theorem F_scope_Scope_Bound_w (p0 : T_scope_Scope) (p1 : LB) {G : LB × Bool → Prop} (h : Heap) (hF : OptP (F_scope_Scope_Bound p0 p1) G) : CallsA Tryz.prog 137 [.agg (c_T_scope_Scope p0), .str p1] h fun d h' => ∃ r, G r ∧ d = .tup [.str r.1, .bool r.2] ∧ h' = h := by
  refine CallsA.ret (C_body Tryz.func137 rfl en_137 Tryz.ntmps137 rfl (fun ok => ?_))
  rw [F_scope_Scope_Bound] at hF
  refine CR (S_box0 rfl rfl rfl rfl (S_a (v := .str nB) rfl (Ab rfl (Sn (C_seq (CR (Ms rfl (S_bin rfl rfl e_seql (Sn ?_)))))))))
  refine C_if (b := (p1 == ([120, 109, 108] : LB))) rfl hF (fun hb1 hF => ?_) (fun hb1 hF => ?_)
  · refine CR (S_a (v := .str ([104, 116, 116, 112, 58, 47, 47, 119, 119, 119, 46, 119, 51, 46, 111, 114, 103, 47, 88, 77, 76, 47, 49, 57, 57, 56, 47, 110, 97, 109, 101, 115, 112, 97, 99, 101] : LB)) rfl (Ab rfl (Sn (WP_ret ?_))))
    with_reducible repeat first | apply Exit.sr | apply Exit.br | apply Exit.jr
    refine C_ret (fn := Tryz.f137) rfl (.tmp (v := .str ([104, 116, 116, 112, 58, 47, 47, 119, 119, 119, 46, 119, 51, 46, 111, 114, 103, 47, 88, 77, 76, 47, 49, 57, 57, 56, 47, 110, 97, 109, 101, 115, 112, 97, 99, 101] : LB)) rfl (.tmp (v := .bool true) rfl .nil)) ?_
    exact ⟨_, _, (.refl _), ok.wh, _, F_some hF, rfl, rfl⟩
  · refine WP_skip ?_
    refine C_join hF (fun (_ : Unit) s' => OK h [] ∧ WS s' ⟨mkSl 26 [(1, .str p1)], Hp h []⟩) (fun J7 hF => ?_) ?_
    · refine CR (S_faQ rfl ty_fd_57_0 ty_sz_55 rfl (S_ldQ rfl (p_one ty_ag_55 ty_sz_55 rfl) (S_lenL rfl ty_sl_55 (Mi rfl (Sn (WP_block ?_))))))
      refine C_loop (σ := Int) hF (fun (a8 : Int) s' => OK h [] ∧ WS s' ⟨mkSl 26 [(1, .str p1), (11, .sl 2 (List.map c_T_scope_bind p0.binds) 0), (12, .I (p0.binds.length : Int)), (13, .I a8)], Hp h []⟩) ?_ ?_
      · exact ⟨ok, WS.mk' (.k (.k (.k (.k .nil)))) ok (.refl _)⟩
      · rintro G9 hG10 rec11 a8 s' ih12 hF ⟨ok, hws⟩
        refine WP_ws hws ?_
        clear hws s'
        rw [F_scope_Scope_Bound_l0] at hF
        refine CR (S_bin rfl rfl (ev_lss ..) (Sn (C_seq ?_)))
        refine C_if (b := (decide (a8 < (p0.binds.length : Int)))) rfl hF (fun hb13 hF => ?_) (fun hb13 hF => ?_)
        · refine WP_skip (C_seq (WP_block (C_seq (C_reg (mdl [(7, 1)]) (S_ix rfl rfl ty_sl_55 ty_sz_170 hF (fun x14 _ hF => S_ldQ rfl (p_agg (vs := c_T_scope_bind x14) ty_ag_170 ty_sz_170 rfl rfl) (S_all1 ok rfl ty_zc_170 ?_)))))))
          intro i15 hi15 ok
          refine S_st (j := 0) (cs' := [.str x14.prefix_, .str x14.uri]) ok rfl rfl rfl hi15 rfl ty_sz_170 rfl rfl (fun ok => Sn (CR (S_faP rfl ty_fd_170_0 ty_sz_9 (S_ldP (j := 0) ok rfl rfl rfl hi15 (p_one (v := .str x14.prefix_) ty_ag_9 ty_sz_9 rfl) (Ms rfl (S_bin rfl rfl e_seql (Sn ?_)))))))
          refine C_if (b := (x14.prefix_ == p1)) rfl hF (fun hb16 hF => ?_) (fun hb16 hF => ?_)
          · refine CR (S_faP rfl ty_fd_170_1 ty_sz_9 (S_ldP (j := 0) ok rfl rfl rfl hi15 (p_one (v := .str x14.uri) ty_ag_9 ty_sz_9 rfl) (S_a (v := .str _) rfl (Ab rfl (Sn (WP_ret ?_))))))
            replace hF := hG10 _ (F_some hF)
            with_reducible repeat first | apply Exit.sr | apply Exit.br | apply Exit.jr
            refine C_ret (fn := Tryz.f137) rfl (.tmp (v := .str x14.uri) rfl (.tmp (v := .bool true) rfl .nil)) ?_
            exact ⟨_, _, (.refl _), ok.wh, _, F_some hF, rfl, rfl⟩
          · refine WP_skip (C_reg (mdl []) (S_bin rfl rfl (ev_add ..) (Mi rfl (Sn (ih12 (IntKind.wrap .i64 (a8 + (1 : Int))) _ hF ?_)))))
            have hwo : WO [(i15, .cells [.str x14.prefix_, .str x14.uri])] [] := (.drop .nil)
            exact ⟨(hwo.spec ok).1, WS.mk' (.k (.k (.k (.k .nil)))) ok hwo⟩
        · refine WP_exit ?_
          simp only [Exit.sel, Exit.blk, Exit.jmp, if_true, if_false, reduceIte, Nat.reduceEqDiff, Nat.succ_ne_zero, Nat.zero_ne_one, Nat.one_ne_zero]
          replace hF := hG10 _ (F_some hF)
          exact ⟨(), hF, ok, WS.mk' (.k .nil) ok (.refl _)⟩
    · rintro ⟨⟩ s' hF ⟨ok, hws⟩
      refine WP_ws hws ?_
      clear hws s'
      refine CR (Ms rfl (S_bin rfl rfl e_seql (S_a (v := .str nB) rfl (Ab rfl (Sn (WP_ret ?_))))))
      with_reducible repeat first | apply Exit.sr | apply Exit.br | apply Exit.jr
      refine C_ret (fn := Tryz.f137) rfl (.tmp (v := .str nB) rfl (.tmp (v := .bool (p1 == nB)) rfl .nil)) ?_
      exact ⟨_, _, (.refl _), ok.wh, _, F_some hF, rfl, rfl⟩
theorem F_scope_Scope_Bound_ok {β : Type} {f : LB × Bool → Option β} {G : β → Prop} {R : D → Heap → Prop} {p0 : T_scope_Scope} {p1 : LB} (h : Heap) (hF : OptP ((F_scope_Scope_Bound p0 p1).bind f) G) (hk : ∀ r, F_scope_Scope_Bound p0 p1 = some r → OptP (f r) G → R (.tup [.str r.1, .bool r.2]) h) : CallsA Tryz.prog 137 [.agg (c_T_scope_Scope p0), .str p1] h R := by
  obtain ⟨r0, hr, hF⟩ := F_bind hF
  refine (F_scope_Scope_Bound_w (G := fun r => r = r0) p0 p1 h ⟨r0, hr, rfl⟩).mono ?_
  rintro _ _ ⟨r, rfl, rfl, rfl⟩
  exact hk _ hr hF
theorem F_scope_Scope_Element_w (p0 : T_scope_Scope) (p1 : LB) {G : T_api_Name × Int → Prop} (h : Heap) (hF : OptP (F_scope_Scope_Element p0 p1) G) : CallsA Tryz.prog 88 [.agg (c_T_scope_Scope p0), .str p1] h fun d h' => ∃ r, G r ∧ d = .tup [.agg (c_T_api_Name r.1), .I r.2] ∧ h' = h := by
  refine CallsA.ret (C_body Tryz.func88 rfl en_88 Tryz.ntmps88 rfl (fun ok => ?_))
  rw [F_scope_Scope_Element] at hF
  refine C_seq (C_reg (mdl [(4, 1)]) (S_box0 rfl rfl rfl rfl (S_all1 ok rfl ty_zc_26 ?_)))
  intro i1 hi1 ok
  refine Ai rfl (Sn (CR (Ms rfl (S_call (F_char_Split_ok _ hF fun x2 _ hF => (S_m (v := .tup _) rfl (S_ext rfl rfl (S_ext rfl rfl (S_ext rfl rfl (S_a (v := .str _) rfl (S_a (v := .str _) rfl (Ab rfl (Sn (C_seq (WP_block (CR (Mb rfl (S_un rfl (ev_not _) (Ab rfl (Sn ?_)))))))))))))))) (.refl _)))))
  refine C_if (b := (!x2.2.2)) rfl hF (fun hb3 hF => ?_) (fun hb3 hF => ?_)
  · refine CR (S_bld (v := .agg (c_T_api_Name (⟨nB, nB⟩ : T_api_Name))) (b_st ty_zc_26 ty_pl_26 rfl) (S_st (j := 0) (cs' := [.str (⟨nB, nB⟩ : T_api_Name).URI, .str (⟨nB, nB⟩ : T_api_Name).Local]) ok rfl rfl rfl hi1 rfl ty_sz_26 rfl rfl (fun ok => Ai rfl (Sn (WP_ret ?_)))))
    with_reducible repeat first | apply Exit.sr | apply Exit.br | apply Exit.jr
    refine C_ret (fn := Tryz.f88) rfl (.cell rfl (ld_ptr (j := 0) ok rfl hi1 (p_agg (vs := [.str (⟨nB, nB⟩ : T_api_Name).URI, .str (⟨nB, nB⟩ : T_api_Name).Local]) ty_ag_26 ty_sz_26 rfl rfl)) (.tmp (v := .I 24) rfl .nil)) ?_
    exact ⟨_, _, (.refl _), ok.wh, _, F_some hF, rfl, rfl⟩
  · refine CR (Ms rfl (S_bin rfl rfl e_seql (Ab rfl (Sn ?_))))
    refine C_if (b := (x2.1 == ([120, 109, 108, 110, 115] : LB))) rfl hF (fun hb4 hF => ?_) (fun hb4 hF => ?_)
    · refine CR (S_bld (v := .agg (c_T_api_Name (⟨nB, nB⟩ : T_api_Name))) (b_st ty_zc_26 ty_pl_26 rfl) (S_st (j := 0) (cs' := [.str (⟨nB, nB⟩ : T_api_Name).URI, .str (⟨nB, nB⟩ : T_api_Name).Local]) ok rfl rfl rfl hi1 rfl ty_sz_26 rfl rfl (fun ok => Ai rfl (Sn (WP_ret ?_)))))
      with_reducible repeat first | apply Exit.sr | apply Exit.br | apply Exit.jr
      refine C_ret (fn := Tryz.f88) rfl (.cell rfl (ld_ptr (j := 0) ok rfl hi1 (p_agg (vs := [.str (⟨nB, nB⟩ : T_api_Name).URI, .str (⟨nB, nB⟩ : T_api_Name).Local]) ty_ag_26 ty_sz_26 rfl rfl)) (.tmp (v := .I 29) rfl .nil)) ?_
      exact ⟨_, _, (.refl _), ok.wh, _, F_some hF, rfl, rfl⟩
    · refine WP_skip (CR (S_ldQ rfl (p_agg (vs := c_T_scope_Scope p0) ty_ag_57 ty_sz_57 rfl rfl) (Ms rfl (S_call (F_scope_Scope_Bound_ok _ hF fun x5 _ hF => (S_m (v := .tup _) rfl (S_ext rfl rfl (S_ext rfl rfl (S_a (v := .str _) rfl (Ab rfl (Sn (C_seq (CR (Mb rfl (S_un rfl (ev_not _) (Sn ?_)))))))))))) (.refl _)))))
      refine C_if (b := (!x5.2)) rfl hF (fun hb6 hF => ?_) (fun hb6 hF => ?_)
      · refine CR (S_bld (v := .agg (c_T_api_Name (⟨nB, nB⟩ : T_api_Name))) (b_st ty_zc_26 ty_pl_26 rfl) (S_st (j := 0) (cs' := [.str (⟨nB, nB⟩ : T_api_Name).URI, .str (⟨nB, nB⟩ : T_api_Name).Local]) ok rfl rfl rfl hi1 rfl ty_sz_26 rfl rfl (fun ok => Ai rfl (Sn (WP_ret ?_)))))
        with_reducible repeat first | apply Exit.sr | apply Exit.br | apply Exit.jr
        refine C_ret (fn := Tryz.f88) rfl (.cell rfl (ld_ptr (j := 0) ok rfl hi1 (p_agg (vs := [.str (⟨nB, nB⟩ : T_api_Name).URI, .str (⟨nB, nB⟩ : T_api_Name).Local]) ty_ag_26 ty_sz_26 rfl rfl)) (.tmp (v := .I 28) rfl .nil)) ?_
        exact ⟨_, _, (.refl _), ok.wh, _, F_some hF, rfl, rfl⟩
      · refine WP_skip (CR (Ms rfl (Ms rfl (S_bld (v := .agg (c_T_api_Name (⟨x5.1, x2.2.1⟩ : T_api_Name))) (b_st ty_zc_26 ty_pl_26 rfl) (S_st (j := 0) (cs' := [.str (⟨x5.1, x2.2.1⟩ : T_api_Name).URI, .str (⟨x5.1, x2.2.1⟩ : T_api_Name).Local]) ok rfl rfl rfl hi1 rfl ty_sz_26 rfl rfl (fun ok => Ai rfl (Sn (WP_ret ?_))))))))
        with_reducible repeat first | apply Exit.sr | apply Exit.br | apply Exit.jr
        refine C_ret (fn := Tryz.f88) rfl (.cell rfl (ld_ptr (j := 0) ok rfl hi1 (p_agg (vs := [.str (⟨x5.1, x2.2.1⟩ : T_api_Name).URI, .str (⟨x5.1, x2.2.1⟩ : T_api_Name).Local]) ty_ag_26 ty_sz_26 rfl rfl)) (.tmp (v := .I 0) rfl .nil)) ?_
        exact ⟨_, _, (.refl _), ok.wh, _, F_some hF, rfl, rfl⟩
theorem F_scope_Scope_Element_ok {β : Type} {f : T_api_Name × Int → Option β} {G : β → Prop} {R : D → Heap → Prop} {p0 : T_scope_Scope} {p1 : LB} (h : Heap) (hF : OptP ((F_scope_Scope_Element p0 p1).bind f) G) (hk : ∀ r, F_scope_Scope_Element p0 p1 = some r → OptP (f r) G → R (.tup [.agg (c_T_api_Name r.1), .I r.2]) h) : CallsA Tryz.prog 88 [.agg (c_T_scope_Scope p0), .str p1] h R := by
  obtain ⟨r0, hr, hF⟩ := F_bind hF
  refine (F_scope_Scope_Element_w (G := fun r => r = r0) p0 p1 h ⟨r0, hr, rfl⟩).mono ?_
  rintro _ _ ⟨r, rfl, rfl, rfl⟩
  exact hk _ hr hF
theorem F_slices_insertionSortCmpFunc_api_Attr_w (p0 : List T_api_Attr) (p1 : Int) (p2 : Int) (p3 : T_api_Attr → T_api_Attr → Option Int) (f3 : FuncId) (fi3 : List D) (ca3 : List D) (b0 : Nat) {G : (List T_api_Attr) → Prop} (h : Heap) (O : List (Nat × AObj)) (hf3 : ∀ (x0 : T_api_Attr) (x1 : T_api_Attr) (G : Int → Prop) (h : Heap), OptP (p3 x0 x1) G → CallsA Tryz.prog f3 (fi3 ++ [.agg (c_T_api_Attr x0), .agg (c_T_api_Attr x1)] ++ ca3) h fun d h' => ∃ r, G r ∧ d = .I r ∧ h' = h) (zb0 : b0 = 0 → p0 = []) (ok : OK h (mo b0 c_T_api_Attr p0 :: O)) (hF : OptP (F_slices_insertionSortCmpFunc_api_Attr p0 p1 p2 p3) G) : CallsA Tryz.prog 187 [mslO 3 b0 p0, .I p1, .I p2, .fn (.func f3) fi3 ca3] (Hp h (mo b0 c_T_api_Attr p0 :: O)) fun d h' => ∃ r, G r ∧ d = .tup [] ∧ (b0 = 0 → r = []) ∧ OK h (mo b0 c_T_api_Attr r :: O) ∧ h' = Hp h (mo b0 c_T_api_Attr r :: O) := by
  refine CallsA.ret (C_bodyO Tryz.func187 rfl en_187 Tryz.ntmps187 rfl ?_)
  rw [F_slices_insertionSortCmpFunc_api_Attr] at hF
  refine CR (Mi rfl (S_bin rfl rfl (ev_add ..) (Ai rfl (Sn (WP_block ?_)))))
  refine C_loop (σ := (List T_api_Attr) × Int) hF (fun (v : (List T_api_Attr) × Int) s' => match v with | (a1, a3) => (b0 = 0 → a1 = []) ∧ OK h (mo b0 c_T_api_Attr a1 :: O) ∧ WS s' ⟨mkSl 53 [(0, mslO 3 b0 a1), (1, .I p1), (2, .I p2), (3, .fn (.func f3) fi3 ca3), (8, .I a3)], Hp h (mo b0 c_T_api_Attr a1 :: O)⟩) ?_ ?_
  · exact ⟨zb0, ok, WS.mk' (.k (.k (.k (.k (.k .nil))))) ok (.refl _)⟩
  · rintro G4 hG5 rec6 ⟨a1, a3⟩ s' ih7 hF ⟨kz2, ok, hws⟩
    refine WP_ws hws ?_
    clear hws s'
    rw [F_slices_insertionSortCmpFunc_api_Attr_l0] at hF
    refine C_seq (CR (Mi rfl (Mi rfl (S_bin rfl rfl (ev_lss ..) (Sn ?_)))))
    refine C_if (b := (decide (a3 < p2))) rfl hF (fun hb8 hF => ?_) (fun hb8 hF => ?_)
    · refine WP_skip ?_
      refine C_join hF (fun (a30 : (List T_api_Attr)) s' => (b0 = 0 → a30 = []) ∧ OK h (mo b0 c_T_api_Attr a30 :: O) ∧ WS s' ⟨mkSl 53 [(0, mslO 3 b0 a30), (1, .I p1), (2, .I p2), (3, .fn (.func f3) fi3 ca3), (8, .I a3)], Hp h (mo b0 c_T_api_Attr a30 :: O)⟩) (fun J32 hF => ?_) ?_
      · refine WP_block (CR (Mi rfl (Ai rfl (Sn (WP_block ?_)))))
        refine C_loop (σ := (List T_api_Attr) × Int) hF (fun (v : (List T_api_Attr) × Int) s' => match v with | (a33, a35) => (b0 = 0 → a33 = []) ∧ OK h (mo b0 c_T_api_Attr a33 :: O) ∧ WS s' ⟨mkSl 53 [(0, mslO 3 b0 a33), (1, .I p1), (2, .I p2), (3, .fn (.func f3) fi3 ca3), (8, .I a3), (9, .I a35)], Hp h (mo b0 c_T_api_Attr a33 :: O)⟩) ?_ ?_
        · exact ⟨kz2, ok, WS.mk' (.k (.k (.k (.k (.k (.k .nil)))))) ok (.refl _)⟩
        · rintro G36 hG37 rec38 ⟨a33, a35⟩ s' ih39 hF ⟨kz34, ok, hws⟩
          refine WP_ws hws ?_
          clear hws s'
          rw [F_slices_insertionSortCmpFunc_api_Attr_l1] at hF
          refine C_seq ?_
          refine C_join hF (fun (a45 : Bool) s' => OK h (mo b0 c_T_api_Attr a33 :: O) ∧ WS s' ⟨mkSl 53 [(0, mslO 3 b0 a33), (1, .I p1), (2, .I p2), (3, .fn (.func f3) fi3 ca3), (8, .I a3), (9, .I a35), (34, .bool a45)], Hp h (mo b0 c_T_api_Attr a33 :: O)⟩) (fun J46 hF => ?_) ?_
          · refine C_drw (mdl []) (by kernel_rfl) (by kernel_rfl) ?_
            refine Mi rfl (Mi rfl (S_bin rfl rfl (ev_gtr ..) (Mb rfl ?_)))
            refine S_if (b := (decide (p1 < a35))) hF (fun hb47 hF => ?_) (fun hb48 hF => ?_)
            · refine Sx rfl rfl hb47 (S_m (v := .fn (.func _) _ _) rfl (Sn (Sx rfl rfl hb47 (S_m (v := mslO _ _ _) rfl (Sn (Sx rfl rfl hb47 (Mi rfl (Sn (Sx rfl rfl hb47 (S_ixO kz34 rfl rfl ty_sl_27 ty_sz_110 hF (fun x49 hx49 hF => Sn (Sx rfl rfl hb47 (S_ldO (q := 3) (j := 0) (f0 := 0) ok rfl kz34 rfl rfl (fun _ => rfl) hx49 rfl rfl (p_agg (vs := c_T_api_Attr x49) ty_ag_110 ty_sz_110 rfl rfl) (Sn (Sx rfl rfl hb47 (S_m (v := mslO _ _ _) rfl (Sn (Sx rfl rfl hb47 (Mi rfl (Sn (Sx rfl rfl hb47 (S_bin rfl rfl (ev_sub ..) (Sn (Sx rfl rfl hb47 (S_ixO kz34 rfl rfl ty_sl_27 ty_sz_110 hF (fun x50 hx50 hF => Sn (Sx rfl rfl hb47 (S_ldO (q := 3) (j := 0) (f0 := 0) ok rfl kz34 rfl rfl (fun _ => rfl) hx50 rfl rfl (p_agg (vs := c_T_api_Attr x50) ty_ag_110 ty_sz_110 rfl rfl) (Sn ?_)))))))))))))))))))))))))))))
              refine Sx rfl rfl hb47 (S_callV rfl (ok_of (enc := fun r => .I r) (fun G h hF => hf3 x49 x50 G h hF) _ hF fun x51 _ hF => (Sn (Sx rfl rfl hb47 (S_bin rfl rfl (ev_lss ..) (Sn (S_pickT (v := .bool _) rfl hb47 rfl (Sn ?_))))))) (.app (.app (.refl _) (.refl _)) (.refl _)))
              exact ⟨(decide (x51 < (0 : Int))), hF, ok, WS.mk' (.k (.k (.k (.k (.k (.k (.k .nil))))))) ok (.refl _)⟩
            · refine So rfl rfl hb48 (So rfl rfl hb48 (So rfl rfl hb48 (So rfl rfl hb48 (So rfl rfl hb48 (So rfl rfl hb48 (So rfl rfl hb48 (So rfl rfl hb48 (So rfl rfl hb48 (So rfl rfl hb48 (So rfl rfl hb48 (So rfl rfl hb48 (S_pickF (v := .bool _) rfl hb48 rfl (Sn ?_)))))))))))))
              exact ⟨false, hF, ok, WS.mk' (.k (.k (.k (.k (.k (.k (.k .nil))))))) ok (.refl _)⟩
          · rintro a45 s' hF ⟨ok, hws⟩
            refine WP_ws hws ?_
            clear hws s'
            refine C_if (b := a45) rfl hF (fun hb52 hF => ?_) (fun hb52 hF => ?_)
            · refine WP_skip (C_seq (WP_block ?_))
              refine C_drw (mdl []) (by kernel_rfl) (by kernel_rfl) ?_
              refine S_m (v := mslO _ _ _) rfl (Mi rfl (S_m (v := mslO _ _ _) rfl (Mi rfl (S_bin rfl rfl (ev_sub ..) (S_m (v := mslO _ _ _) rfl (Mi rfl (S_bin rfl rfl (ev_sub ..) (S_ixO kz34 rfl rfl ty_sl_27 ty_sz_110 hF (fun x53 hx53 hF => S_ldO (q := 3) (j := 0) (f0 := 0) ok rfl kz34 rfl rfl (fun _ => rfl) hx53 rfl rfl (p_agg (vs := c_T_api_Attr x53) ty_ag_110 ty_sz_110 rfl rfl) (S_m (v := mslO _ _ _) rfl (Mi rfl (S_ixO kz34 rfl rfl ty_sl_27 ty_sz_110 hF (fun x54 hx54 hF => S_ldO (q := 3) (j := 0) (f0 := 0) ok rfl kz34 rfl rfl (fun _ => rfl) hx54 rfl rfl (p_agg (vs := c_T_api_Attr x54) ty_ag_110 ty_sz_110 rfl rfl) (S_ixO kz34 rfl rfl ty_sl_27 ty_sz_110 hF (fun x55 hx55 hF => S_stO (q := 3) (j := 0) (f0 := 0) (b := x53) ok kz34 rfl rfl rfl (fun _ => rfl) hx55 rfl rfl ty_sz_110 rfl rfl (fun za56 ok => ?_))))))))))))))))
              obtain ⟨a56, ha56, hF⟩ := F_let hF
              rw [← ha56] at ok za56
              rw [← ha56]
              have hms : mslO 3 b0 a33 = mslO 3 b0 a56 := mslO_len (by rw [ha56, List.length_set])
              try rw [hms] at ok
              try rw [hms]
              clear hms
              refine S_ixO za56 rfl rfl ty_sl_27 ty_sz_110 hF (fun x57 hx57 hF => S_stO (q := 3) (j := 0) (f0 := 0) (b := x54) ok za56 rfl rfl rfl (fun _ => rfl) hx57 rfl rfl ty_sz_110 rfl rfl (fun za58 ok => ?_))
              obtain ⟨a58, ha58, hF⟩ := F_let hF
              rw [← ha58] at ok za58
              rw [← ha58]
              have hms : mslO 3 b0 a56 = mslO 3 b0 a58 := mslO_len (by rw [ha58, List.length_set])
              try rw [hms] at ok
              try rw [hms]
              clear hms
              refine Sn (C_reg (mdl []) (Mi rfl (S_bin rfl rfl (ev_sub ..) (Ai rfl (Sn (ih39 (a58, (IntKind.wrap .i64 (a35 - (1 : Int)))) _ hF ?_))))))
              exact ⟨za58, ok, WS.mk' (.k (.k (.k (.k (.k (.k .nil)))))) ok (.refl _)⟩
            · refine WP_exit ?_
              simp only [Exit.sel, Exit.blk, Exit.jmp, if_true, if_false, reduceIte, Nat.reduceEqDiff, Nat.succ_ne_zero, Nat.zero_ne_one, Nat.one_ne_zero]
              replace hF := hG37 _ (F_some hF)
              exact ⟨a33, hF, kz34, ok, WS.mk' (.k (.k (.k (.k (.k .nil))))) ok (.refl _)⟩
      · rintro a30 s' hF ⟨kz31, ok, hws⟩
        refine WP_ws hws ?_
        clear hws s'
        refine C_reg (mdl []) (Mi rfl (S_bin rfl rfl (ev_add ..) (Ai rfl (Sn (ih7 (a30, (IntKind.wrap .i64 (a3 + (1 : Int)))) _ hF ?_)))))
        exact ⟨kz31, ok, WS.mk' (.k (.k (.k (.k (.k .nil))))) ok (.refl _)⟩
    · refine WP_exit ?_
      simp only [Exit.sel, Exit.blk, Exit.jmp, if_true, if_false, reduceIte, Nat.reduceEqDiff, Nat.succ_ne_zero, Nat.zero_ne_one, Nat.one_ne_zero]
      replace hF := hG5 _ (F_some hF)
      with_reducible repeat first | apply Exit.sr | apply Exit.br | apply Exit.jr
      refine C_retN (fn := Tryz.f187) rfl .nil ?_
      exact ⟨_, _, (.refl _), .refl _, _, F_some hF, rfl, kz2, ok, rfl⟩
theorem F_slices_insertionSortCmpFunc_api_Attr_ok {β : Type} {f0 : (List T_api_Attr) → Option β} {G : β → Prop} {R : D → Heap → Prop} {p0 : List T_api_Attr} {p1 : Int} {p2 : Int} {p3 : T_api_Attr → T_api_Attr → Option Int} {f3 : FuncId} {fi3 : List D} {ca3 : List D} {b0 : Nat} (h : Heap) (O : List (Nat × AObj)) (hf3 : ∀ (x0 : T_api_Attr) (x1 : T_api_Attr) (G : Int → Prop) (h : Heap), OptP (p3 x0 x1) G → CallsA Tryz.prog f3 (fi3 ++ [.agg (c_T_api_Attr x0), .agg (c_T_api_Attr x1)] ++ ca3) h fun d h' => ∃ r, G r ∧ d = .I r ∧ h' = h) (zb0 : b0 = 0 → p0 = []) (ok : OK h (mo b0 c_T_api_Attr p0 :: O)) (hF : OptP ((F_slices_insertionSortCmpFunc_api_Attr p0 p1 p2 p3).bind f0) G) (hk : ∀ r, F_slices_insertionSortCmpFunc_api_Attr p0 p1 p2 p3 = some r → (b0 = 0 → r = []) → OK h (mo b0 c_T_api_Attr r :: O) → OptP (f0 r) G → R (.tup []) (Hp h (mo b0 c_T_api_Attr r :: O))) : CallsA Tryz.prog 187 [mslO 3 b0 p0, .I p1, .I p2, .fn (.func f3) fi3 ca3] (Hp h (mo b0 c_T_api_Attr p0 :: O)) R := by
  obtain ⟨r0, hr, hF⟩ := F_bind hF
  refine (F_slices_insertionSortCmpFunc_api_Attr_w (G := fun r => r = r0) p0 p1 p2 p3 f3 fi3 ca3 b0 h O hf3 zb0 ok ⟨r0, hr, rfl⟩).mono ?_
  rintro _ _ ⟨r, rfl, rfl, y0, ok', rfl⟩
  exact hk _ hr y0 ok' hF
theorem F_slices_stableCmpFunc_api_Attr_w (p0 : List T_api_Attr) (p1 : Int) (p2 : T_api_Attr → T_api_Attr → Option Int) (f2 : FuncId) (fi2 : List D) (ca2 : List D) (b0 : Nat) {G : (List T_api_Attr) → Prop} (h : Heap) (O : List (Nat × AObj)) (hf2 : ∀ (x0 : T_api_Attr) (x1 : T_api_Attr) (G : Int → Prop) (h : Heap), OptP (p2 x0 x1) G → CallsA Tryz.prog f2 (fi2 ++ [.agg (c_T_api_Attr x0), .agg (c_T_api_Attr x1)] ++ ca2) h fun d h' => ∃ r, G r ∧ d = .I r ∧ h' = h) (zb0 : b0 = 0 → p0 = []) (ok : OK h (mo b0 c_T_api_Attr p0 :: O)) (hF : OptP (F_slices_stableCmpFunc_api_Attr p0 p1 p2) G) : CallsA Tryz.prog 172 [mslO 3 b0 p0, .I p1, .fn (.func f2) fi2 ca2] (Hp h (mo b0 c_T_api_Attr p0 :: O)) fun d h' => ∃ r, G r ∧ d = .tup [] ∧ (b0 = 0 → r = []) ∧ OK h (mo b0 c_T_api_Attr r :: O) ∧ h' = Hp h (mo b0 c_T_api_Attr r :: O) := by
  refine CallsA.ret (C_bodyO Tryz.func172 rfl en_172 Tryz.ntmps172 rfl ?_)
  rw [F_slices_stableCmpFunc_api_Attr] at hF
  refine CR (Ai rfl (Sn (CR (Mi rfl (Ai rfl (Ai rfl (Sn ?_)))))))
  refine C_join hF (fun (v : (List T_api_Attr) × Int) s' => match v with | (a10, a12) => (b0 = 0 → a10 = []) ∧ OK h (mo b0 c_T_api_Attr a10 :: O) ∧ WS s' ⟨mkSl 63 [(0, mslO 3 b0 a10), (1, .I p1), (2, .fn (.func f2) fi2 ca2), (6, .I 20), (7, .I a12)], Hp h (mo b0 c_T_api_Attr a10 :: O)⟩) (fun J13 hF => ?_) ?_
  · refine WP_block ?_
    refine C_loop (σ := (List T_api_Attr) × Int × Int) hF (fun (v : (List T_api_Attr) × Int × Int) s' => match v with | (a14, a16, a17) => (b0 = 0 → a14 = []) ∧ OK h (mo b0 c_T_api_Attr a14 :: O) ∧ WS s' ⟨mkSl 63 [(0, mslO 3 b0 a14), (1, .I p1), (2, .fn (.func f2) fi2 ca2), (6, .I 20), (7, .I a16), (8, .I a17)], Hp h (mo b0 c_T_api_Attr a14 :: O)⟩) ?_ ?_
    · exact ⟨zb0, ok, WS.mk' (.k (.k (.k (.k (.k (.k .nil)))))) ok (.refl _)⟩
    · rintro G18 hG19 rec20 ⟨a14, a16, a17⟩ s' ih21 hF ⟨kz15, ok, hws⟩
      refine WP_ws hws ?_
      clear hws s'
      rw [F_slices_stableCmpFunc_api_Attr_l0] at hF
      refine C_seq (CR (Mi rfl (Mi rfl (S_bin rfl rfl (ev_leq ..) (Sn ?_)))))
      refine C_if (b := (decide (a17 ≤ p1))) rfl hF (fun hb22 hF => ?_) (fun hb22 hF => ?_)
      · refine WP_skip (WP_block (CR (S_m (v := mslO _ _ _) rfl (Mi rfl (Mi rfl (S_m (v := .fn (.func _) _ _) rfl (S_call (F_slices_insertionSortCmpFunc_api_Attr_ok (p0 := a14) (f3 := f2) (fi3 := fi2) (ca3 := ca2) (b0 := b0) h _ hf2 kz15 ok hF fun x23 _ zr24 ok hF => ?_) (.refl _))))))))
        obtain ⟨a25, ha25, hF⟩ := F_let hF
        obtain ⟨_, hl26, hF⟩ := F_bind hF
        rw [← ha25] at ok zr24
        rw [← ha25]
        have hms : mslO 3 b0 a14 = mslO 3 b0 a25 := mslO_len (eqL_spec hl26)
        try rw [hms] at ok
        try rw [hms]
        clear hms
        refine Sn (CR (Mi rfl (Ai rfl (Sn (C_reg (mdl []) (Mi rfl (Mi rfl (S_bin rfl rfl (ev_add ..) (Ai rfl (Sn (ih21 (a25, a17, (IntKind.wrap .i64 (a17 + (20 : Int)))) _ hF ?_)))))))))))
        exact ⟨zr24, ok, WS.mk' (.k (.k (.k (.k (.k (.k .nil)))))) ok (.refl _)⟩
      · refine WP_exit ?_
        simp only [Exit.sel, Exit.blk, Exit.jmp, if_true, if_false, reduceIte, Nat.reduceEqDiff, Nat.succ_ne_zero, Nat.zero_ne_one, Nat.one_ne_zero]
        replace hF := hG19 _ (F_some hF)
        exact ⟨(a14, a16), hF, kz15, ok, WS.mk' (.k (.k (.k (.k (.k .nil))))) ok (.refl _)⟩
  · rintro ⟨a10, a12⟩ s' hF ⟨kz11, ok, hws⟩
    refine WP_ws hws ?_
    clear hws s'
    refine CR (S_m (v := mslO _ _ _) rfl (Mi rfl (Mi rfl (S_m (v := .fn (.func _) _ _) rfl (S_call (F_slices_insertionSortCmpFunc_api_Attr_ok (p0 := a10) (f3 := f2) (fi3 := fi2) (ca3 := ca2) (b0 := b0) h _ hf2 kz11 ok hF fun x27 _ zr28 ok hF => ?_) (.refl _))))))
    obtain ⟨a29, ha29, hF⟩ := F_let hF
    obtain ⟨_, hl30, hF⟩ := F_bind hF
    rw [← ha29] at ok zr28
    rw [← ha29]
    have hms : mslO 3 b0 a10 = mslO 3 b0 a29 := mslO_len (eqL_spec hl30)
    try rw [hms] at ok
    try rw [hms]
    clear hms
    refine Sn (WP_block ?_)
    refine C_loop (σ := Int) hF (fun (a31 : Int) s' => OK h (mo b0 c_T_api_Attr a29 :: O) ∧ WS s' ⟨mkSl 63 [(0, mslO 3 b0 a29), (1, .I p1), (2, .fn (.func f2) fi2 ca2), (6, .I a31)], Hp h (mo b0 c_T_api_Attr a29 :: O)⟩) ?_ ?_
    · exact ⟨ok, WS.mk' (.k (.k (.k (.k .nil)))) ok (.refl _)⟩
    · rintro G32 hG33 rec34 a31 s' ih35 hF ⟨ok, hws⟩
      refine WP_ws hws ?_
      clear hws s'
      rw [F_slices_stableCmpFunc_api_Attr_l1] at hF
      refine C_seq (CR (Mi rfl (Mi rfl (S_bin rfl rfl (ev_lss ..) (Sn ?_)))))
      refine C_if (b := (decide (a31 < p1))) rfl hF (fun hb36 hF => ?_) (fun hb36 hF => ?_)
      · refine WP_skip (WP_block (CR (Mi rfl (S_bin rfl rfl (ev_mul ..) (Ai rfl (Ai rfl (Sn ?_)))))))
        refine C_join hF (fun (a40 : Int) s' => OK h (mo b0 c_T_api_Attr a29 :: O) ∧ WS s' ⟨mkSl 63 [(0, mslO 3 b0 a29), (1, .I p1), (2, .fn (.func f2) fi2 ca2), (6, .I a31), (7, .I a40)], Hp h (mo b0 c_T_api_Attr a29 :: O)⟩) (fun J41 hF => ?_) ?_
        · refine WP_block ?_
          refine C_loop (σ := Int × Int) hF (fun (v : Int × Int) s' => match v with | (a42, a43) => OK h (mo b0 c_T_api_Attr a29 :: O) ∧ WS s' ⟨mkSl 63 [(0, mslO 3 b0 a29), (1, .I p1), (2, .fn (.func f2) fi2 ca2), (6, .I a31), (7, .I a42), (8, .I a43)], Hp h (mo b0 c_T_api_Attr a29 :: O)⟩) ?_ ?_
          · exact ⟨ok, WS.mk' (.k (.k (.k (.k (.k (.k .nil)))))) ok (.refl _)⟩
          · rintro G44 hG45 rec46 ⟨a42, a43⟩ s' ih47 hF ⟨ok, hws⟩
            refine WP_ws hws ?_
            clear hws s'
            rw [F_slices_stableCmpFunc_api_Attr_l2] at hF
            refine C_seq (CR (Mi rfl (Mi rfl (S_bin rfl rfl (ev_leq ..) (Sn ?_)))))
            refine C_if (b := (decide (a43 ≤ p1))) rfl hF (fun hb48 hF => ?_) (fun hb48 hF => ?_)
            · refine WP_skip (WP_block (CR (S_m (v := mslO _ _ _) rfl (Mi rfl (Mi rfl (Mi rfl (S_bin rfl rfl (ev_add ..) (Mi rfl (S_m (v := .fn (.func _) _ _) rfl ?_)))))))))
              exact F_none hF
            · refine WP_exit ?_
              simp only [Exit.sel, Exit.blk, Exit.jmp, if_true, if_false, reduceIte, Nat.reduceEqDiff, Nat.succ_ne_zero, Nat.zero_ne_one, Nat.one_ne_zero]
              replace hF := hG45 _ (F_some hF)
              exact ⟨a42, hF, ok, WS.mk' (.k (.k (.k (.k (.k .nil))))) ok (.refl _)⟩
        · rintro a40 s' hF ⟨ok, hws⟩
          refine WP_ws hws ?_
          clear hws s'
          refine C_join hF (fun (_ : Unit) s' => OK h (mo b0 c_T_api_Attr a29 :: O) ∧ WS s' ⟨mkSl 63 [(0, mslO 3 b0 a29), (1, .I p1), (2, .fn (.func f2) fi2 ca2), (6, .I a31)], Hp h (mo b0 c_T_api_Attr a29 :: O)⟩) (fun J50 hF => ?_) ?_
          · refine CR (Mi rfl (Mi rfl (S_bin rfl rfl (ev_add ..) (Ai rfl (Sn (CR (Mi rfl (Mi rfl (S_bin rfl rfl (ev_lss ..) (Sn ?_))))))))))
            refine C_if (b := (decide ((IntKind.wrap .i64 (a40 + a31)) < p1))) rfl hF (fun hb51 hF => ?_) (fun hb51 hF => ?_)
            · refine C_reg (mdl []) (S_m (v := mslO _ _ _) rfl (Mi rfl (Mi rfl (Mi rfl (S_m (v := .fn (.func _) _ _) rfl ?_)))))
              exact F_none hF
            · refine WP_skip ?_
              exact ⟨(), hF, ok, WS.mk' (.k (.k (.k (.k .nil)))) ok (.refl _)⟩
          · rintro ⟨⟩ s' hF ⟨ok, hws⟩
            refine WP_ws hws ?_
            clear hws s'
            refine C_reg (mdl []) (Mi rfl (S_bin rfl rfl (ev_mul ..) (Ai rfl (Sn (ih35 (IntKind.wrap .i64 (a31 * (2 : Int))) _ hF ?_)))))
            exact ⟨ok, WS.mk' (.k (.k (.k (.k .nil)))) ok (.refl _)⟩
      · refine WP_exit ?_
        simp only [Exit.sel, Exit.blk, Exit.jmp, if_true, if_false, reduceIte, Nat.reduceEqDiff, Nat.succ_ne_zero, Nat.zero_ne_one, Nat.one_ne_zero]
        replace hF := hG33 _ (F_some hF)
        with_reducible repeat first | apply Exit.sr | apply Exit.br | apply Exit.jr
        refine C_retN (fn := Tryz.f172) rfl .nil ?_
        exact ⟨_, _, (.refl _), .refl _, _, F_some hF, rfl, zr28, ok, rfl⟩
theorem F_slices_stableCmpFunc_api_Attr_ok {β : Type} {f0 : (List T_api_Attr) → Option β} {G : β → Prop} {R : D → Heap → Prop} {p0 : List T_api_Attr} {p1 : Int} {p2 : T_api_Attr → T_api_Attr → Option Int} {f2 : FuncId} {fi2 : List D} {ca2 : List D} {b0 : Nat} (h : Heap) (O : List (Nat × AObj)) (hf2 : ∀ (x0 : T_api_Attr) (x1 : T_api_Attr) (G : Int → Prop) (h : Heap), OptP (p2 x0 x1) G → CallsA Tryz.prog f2 (fi2 ++ [.agg (c_T_api_Attr x0), .agg (c_T_api_Attr x1)] ++ ca2) h fun d h' => ∃ r, G r ∧ d = .I r ∧ h' = h) (zb0 : b0 = 0 → p0 = []) (ok : OK h (mo b0 c_T_api_Attr p0 :: O)) (hF : OptP ((F_slices_stableCmpFunc_api_Attr p0 p1 p2).bind f0) G) (hk : ∀ r, F_slices_stableCmpFunc_api_Attr p0 p1 p2 = some r → (b0 = 0 → r = []) → OK h (mo b0 c_T_api_Attr r :: O) → OptP (f0 r) G → R (.tup []) (Hp h (mo b0 c_T_api_Attr r :: O))) : CallsA Tryz.prog 172 [mslO 3 b0 p0, .I p1, .fn (.func f2) fi2 ca2] (Hp h (mo b0 c_T_api_Attr p0 :: O)) R := by
  obtain ⟨r0, hr, hF⟩ := F_bind hF
  refine (F_slices_stableCmpFunc_api_Attr_w (G := fun r => r = r0) p0 p1 p2 f2 fi2 ca2 b0 h O hf2 zb0 ok ⟨r0, hr, rfl⟩).mono ?_
  rintro _ _ ⟨r, rfl, rfl, y0, ok', rfl⟩
  exact hk _ hr y0 ok' hF
theorem F_slices_SortStableFunc_api_Attr_api_Attr_w (p0 : List T_api_Attr) (p1 : T_api_Attr → T_api_Attr → Option Int) (f1 : FuncId) (fi1 : List D) (ca1 : List D) (b0 : Nat) {G : (List T_api_Attr) → Prop} (h : Heap) (O : List (Nat × AObj)) (hf1 : ∀ (x0 : T_api_Attr) (x1 : T_api_Attr) (G : Int → Prop) (h : Heap), OptP (p1 x0 x1) G → CallsA Tryz.prog f1 (fi1 ++ [.agg (c_T_api_Attr x0), .agg (c_T_api_Attr x1)] ++ ca1) h fun d h' => ∃ r, G r ∧ d = .I r ∧ h' = h) (zb0 : b0 = 0 → p0 = []) (ok : OK h (mo b0 c_T_api_Attr p0 :: O)) (hF : OptP (F_slices_SortStableFunc_api_Attr_api_Attr p0 p1) G) : CallsA Tryz.prog 138 [mslO 3 b0 p0, .fn (.func f1) fi1 ca1] (Hp h (mo b0 c_T_api_Attr p0 :: O)) fun d h' => ∃ r, G r ∧ d = .tup [] ∧ (b0 = 0 → r = []) ∧ OK h (mo b0 c_T_api_Attr r :: O) ∧ h' = Hp h (mo b0 c_T_api_Attr r :: O) := by
  refine CallsA.ret (C_bodyO Tryz.func138 rfl en_138 Tryz.ntmps138 rfl ?_)
  rw [F_slices_SortStableFunc_api_Attr_api_Attr] at hF
  refine C_reg (mdl []) (S_m (v := mslO _ _ _) rfl (S_m (v := mslO _ _ _) rfl (S_lenO zb0 rfl ty_sl_27 (S_m (v := .fn (.func _) _ _) rfl (S_call (F_slices_stableCmpFunc_api_Attr_ok (p0 := p0) (f2 := f1) (fi2 := fi1) (ca2 := ca1) (b0 := b0) h _ hf1 zb0 ok hF fun x1 _ zr2 ok hF => ?_) (.refl _))))))
  obtain ⟨a3, ha3, hF⟩ := F_let hF
  obtain ⟨_, hl4, hF⟩ := F_bind hF
  rw [← ha3] at ok zr2
  rw [← ha3]
  have hms : mslO 3 b0 p0 = mslO 3 b0 a3 := mslO_len (eqL_spec hl4)
  try rw [hms] at ok
  try rw [hms]
  clear hms
  refine Sn ?_
  with_reducible repeat first | apply Exit.sr | apply Exit.br | apply Exit.jr
  refine C_retN (fn := Tryz.f138) rfl .nil ?_
  exact ⟨_, _, (.refl _), .refl _, _, F_some hF, rfl, zr2, ok, rfl⟩
theorem F_slices_SortStableFunc_api_Attr_api_Attr_ok {β : Type} {f0 : (List T_api_Attr) → Option β} {G : β → Prop} {R : D → Heap → Prop} {p0 : List T_api_Attr} {p1 : T_api_Attr → T_api_Attr → Option Int} {f1 : FuncId} {fi1 : List D} {ca1 : List D} {b0 : Nat} (h : Heap) (O : List (Nat × AObj)) (hf1 : ∀ (x0 : T_api_Attr) (x1 : T_api_Attr) (G : Int → Prop) (h : Heap), OptP (p1 x0 x1) G → CallsA Tryz.prog f1 (fi1 ++ [.agg (c_T_api_Attr x0), .agg (c_T_api_Attr x1)] ++ ca1) h fun d h' => ∃ r, G r ∧ d = .I r ∧ h' = h) (zb0 : b0 = 0 → p0 = []) (ok : OK h (mo b0 c_T_api_Attr p0 :: O)) (hF : OptP ((F_slices_SortStableFunc_api_Attr_api_Attr p0 p1).bind f0) G) (hk : ∀ r, F_slices_SortStableFunc_api_Attr_api_Attr p0 p1 = some r → (b0 = 0 → r = []) → OK h (mo b0 c_T_api_Attr r :: O) → OptP (f0 r) G → R (.tup []) (Hp h (mo b0 c_T_api_Attr r :: O))) : CallsA Tryz.prog 138 [mslO 3 b0 p0, .fn (.func f1) fi1 ca1] (Hp h (mo b0 c_T_api_Attr p0 :: O)) R := by
  obtain ⟨r0, hr, hF⟩ := F_bind hF
  refine (F_slices_SortStableFunc_api_Attr_api_Attr_w (G := fun r => r = r0) p0 p1 f1 fi1 ca1 b0 h O hf1 zb0 ok ⟨r0, hr, rfl⟩).mono ?_
  rintro _ _ ⟨r, rfl, rfl, y0, ok', rfl⟩
  exact hk _ hr y0 ok' hF
theorem F_cmp_isNaN_string_w (p0 : LB) {G : Bool → Prop} (h : Heap) (hF : OptP (F_cmp_isNaN_string p0) G) : CallsA Tryz.prog 154 [.str p0] h fun d h' => ∃ r, G r ∧ d = .bool r ∧ h' = h := by
  refine CallsA.ret (C_body Tryz.func154 rfl en_154 Tryz.ntmps154 rfl (fun ok => ?_))
  rw [F_cmp_isNaN_string] at hF
  refine CR (Ab rfl (Sn (CR (Ms rfl (Ms rfl (S_bin rfl rfl e_sneq (Ab rfl (Sn (WP_ret ?_)))))))))
  with_reducible repeat first | apply Exit.sr | apply Exit.br | apply Exit.jr
  refine C_ret (fn := Tryz.f154) rfl (.tmp (v := .bool (!(p0 == p0))) rfl .nil) ?_
  exact ⟨_, _, (.refl _), ok.wh, _, F_some hF, rfl, rfl⟩
theorem F_cmp_isNaN_string_ok {β : Type} {f : Bool → Option β} {G : β → Prop} {R : D → Heap → Prop} {p0 : LB} (h : Heap) (hF : OptP ((F_cmp_isNaN_string p0).bind f) G) (hk : ∀ r, F_cmp_isNaN_string p0 = some r → OptP (f r) G → R (.bool r) h) : CallsA Tryz.prog 154 [.str p0] h R := by
  obtain ⟨r0, hr, hF⟩ := F_bind hF
  refine (F_cmp_isNaN_string_w (G := fun r => r = r0) p0 h ⟨r0, hr, rfl⟩).mono ?_
  rintro _ _ ⟨r, rfl, rfl, rfl⟩
  exact hk _ hr hF
theorem F_cmp_Compare_string_w (p0 : LB) (p1 : LB) {G : Int → Prop} (h : Heap) (hF : OptP (F_cmp_Compare_string p0 p1) G) : CallsA Tryz.prog 108 [.str p0, .str p1] h fun d h' => ∃ r, G r ∧ d = .I r ∧ h' = h := by
  refine CallsA.ret (C_body Tryz.func108 rfl en_108 Tryz.ntmps108 rfl (fun ok => ?_))
  rw [F_cmp_Compare_string] at hF
  refine CR (Ai rfl (Sn (CR (Ms rfl (S_call (F_cmp_isNaN_string_ok _ hF fun x1 _ hF => (Ab rfl (Sn (CR (Ms rfl (S_call (F_cmp_isNaN_string_ok _ hF fun x2 _ hF => (Ab rfl (Sn (C_seq (CR (Mb rfl (Sn ?_))))))) (.refl _))))))) (.refl _))))))
  refine C_if (b := x1) rfl hF (fun hb3 hF => ?_) (fun hb3 hF => ?_)
  · refine C_seq (CR (Mb rfl (Sn ?_)))
    refine C_if (b := x2) rfl hF (fun hb4 hF => ?_) (fun hb4 hF => ?_)
    · refine CR (Ai rfl (Sn (WP_ret ?_)))
      with_reducible repeat first | apply Exit.sr | apply Exit.br | apply Exit.jr
      refine C_ret (fn := Tryz.f108) rfl (.tmp (v := .I 0) rfl .nil) ?_
      exact ⟨_, _, (.refl _), ok.wh, _, F_some hF, rfl, rfl⟩
    · refine WP_skip (CR (Ai rfl (Sn (WP_ret ?_))))
      with_reducible repeat first | apply Exit.sr | apply Exit.br | apply Exit.jr
      refine C_ret (fn := Tryz.f108) rfl (.tmp (v := .I (-1 : Int)) rfl .nil) ?_
      exact ⟨_, _, (.refl _), ok.wh, _, F_some hF, rfl, rfl⟩
  · refine WP_skip (C_seq (CR (Mb rfl (Sn ?_))))
    refine C_if (b := x2) rfl hF (fun hb5 hF => ?_) (fun hb5 hF => ?_)
    · refine CR (Ai rfl (Sn (WP_ret ?_)))
      with_reducible repeat first | apply Exit.sr | apply Exit.br | apply Exit.jr
      refine C_ret (fn := Tryz.f108) rfl (.tmp (v := .I 1) rfl .nil) ?_
      exact ⟨_, _, (.refl _), ok.wh, _, F_some hF, rfl, rfl⟩
    · refine WP_skip (C_seq (CR (Ms rfl (Ms rfl (S_bin rfl rfl e_slss (Sn ?_))))))
      refine C_if (b := (Op.bytesLess p0 p1)) rfl hF (fun hb6 hF => ?_) (fun hb6 hF => ?_)
      · refine CR (Ai rfl (Sn (WP_ret ?_)))
        with_reducible repeat first | apply Exit.sr | apply Exit.br | apply Exit.jr
        refine C_ret (fn := Tryz.f108) rfl (.tmp (v := .I (-1 : Int)) rfl .nil) ?_
        exact ⟨_, _, (.refl _), ok.wh, _, F_some hF, rfl, rfl⟩
      · refine WP_skip (C_seq (CR (Ms rfl (Ms rfl (S_bin rfl rfl e_sgtr (Sn ?_))))))
        refine C_if (b := (!(Op.bytesLess p0 p1 || p0 == p1))) rfl hF (fun hb7 hF => ?_) (fun hb7 hF => ?_)
        · refine CR (Ai rfl (Sn (WP_ret ?_)))
          with_reducible repeat first | apply Exit.sr | apply Exit.br | apply Exit.jr
          refine C_ret (fn := Tryz.f108) rfl (.tmp (v := .I 1) rfl .nil) ?_
          exact ⟨_, _, (.refl _), ok.wh, _, F_some hF, rfl, rfl⟩
        · refine WP_skip (CR (Ai rfl (Sn (WP_ret ?_))))
          with_reducible repeat first | apply Exit.sr | apply Exit.br | apply Exit.jr
          refine C_ret (fn := Tryz.f108) rfl (.tmp (v := .I 0) rfl .nil) ?_
          exact ⟨_, _, (.refl _), ok.wh, _, F_some hF, rfl, rfl⟩
theorem F_cmp_Compare_string_ok {β : Type} {f : Int → Option β} {G : β → Prop} {R : D → Heap → Prop} {p0 : LB} {p1 : LB} (h : Heap) (hF : OptP ((F_cmp_Compare_string p0 p1).bind f) G) (hk : ∀ r, F_cmp_Compare_string p0 p1 = some r → OptP (f r) G → R (.I r) h) : CallsA Tryz.prog 108 [.str p0, .str p1] h R := by
  obtain ⟨r0, hr, hF⟩ := F_bind hF
  refine (F_cmp_Compare_string_w (G := fun r => r = r0) p0 p1 h ⟨r0, hr, rfl⟩).mono ?_
  rintro _ _ ⟨r, rfl, rfl, rfl⟩
  exact hk _ hr hF
theorem F_cmp_Or_int_w (p0 : List Int) {G : Int → Prop} (h : Heap) (hF : OptP (F_cmp_Or_int p0) G) : CallsA Tryz.prog 107 [.sl 1 (List.map c_i64 p0) 0] h fun d h' => ∃ r, G r ∧ d = .I r ∧ h' = h := by
  refine CallsA.ret (C_body Tryz.func107 rfl en_107 Tryz.ntmps107 rfl (fun ok => ?_))
  rw [F_cmp_Or_int] at hF
  refine CR (Ai rfl (Sn (CR (Ai rfl (Sn ?_)))))
  refine C_join hF (fun (_ : Unit) s' => OK h [] ∧ WS s' ⟨mkSl 18 [(3, .I 0)], Hp h []⟩) (fun J5 hF => ?_) ?_
  · refine CR (Ml rfl (S_lenL rfl ty_sl_210 (Mi rfl (Sn (WP_block ?_)))))
    refine C_loop (σ := Int) hF (fun (a6 : Int) s' => OK h [] ∧ WS s' ⟨mkSl 18 [(3, .I 0), (6, .sl 1 (List.map c_i64 p0) 0), (7, .I (p0.length : Int)), (8, .I a6)], Hp h []⟩) ?_ ?_
    · exact ⟨ok, WS.mk' (.k (.k (.k (.k .nil)))) ok (.refl _)⟩
    · rintro G7 hG8 rec9 a6 s' ih10 hF ⟨ok, hws⟩
      refine WP_ws hws ?_
      clear hws s'
      rw [F_cmp_Or_int_l0] at hF
      refine CR (S_bin rfl rfl (ev_lss ..) (Sn (C_seq ?_)))
      refine C_if (b := (decide (a6 < (p0.length : Int)))) rfl hF (fun hb11 hF => ?_) (fun hb11 hF => ?_)
      · refine WP_skip (C_seq (WP_block (CR (S_ix rfl rfl ty_sl_210 ty_sz_3 hF (fun x12 _ hF => S_ldQ rfl (p_one ty_ag_3 ty_sz_3 rfl) (Ai rfl (Sn (CR (Mi rfl (Mi rfl (S_bin rfl rfl (ev_neq ..) (Sn ?_))))))))))))
        refine C_if (b := (x12 != (0 : Int))) rfl hF (fun hb13 hF => ?_) (fun hb13 hF => ?_)
        · refine CR (Mi rfl (Ai rfl (Sn (WP_ret ?_))))
          replace hF := hG8 _ (F_some hF)
          with_reducible repeat first | apply Exit.sr | apply Exit.br | apply Exit.jr
          refine C_ret (fn := Tryz.f107) rfl (.tmp (v := .I x12) rfl .nil) ?_
          exact ⟨_, _, (.refl _), ok.wh, _, F_some hF, rfl, rfl⟩
        · refine WP_skip (C_reg (mdl []) (S_bin rfl rfl (ev_add ..) (Mi rfl (Sn (ih10 (IntKind.wrap .i64 (a6 + (1 : Int))) _ hF ?_)))))
          exact ⟨ok, WS.mk' (.k (.k (.k (.k .nil)))) ok (.refl _)⟩
      · refine WP_exit ?_
        simp only [Exit.sel, Exit.blk, Exit.jmp, if_true, if_false, reduceIte, Nat.reduceEqDiff, Nat.succ_ne_zero, Nat.zero_ne_one, Nat.one_ne_zero]
        replace hF := hG8 _ (F_some hF)
        exact ⟨(), hF, ok, WS.mk' (.k .nil) ok (.refl _)⟩
  · rintro ⟨⟩ s' hF ⟨ok, hws⟩
    refine WP_ws hws ?_
    clear hws s'
    refine CR (Mi rfl (Ai rfl (Sn (WP_ret ?_))))
    with_reducible repeat first | apply Exit.sr | apply Exit.br | apply Exit.jr
    refine C_ret (fn := Tryz.f107) rfl (.tmp (v := .I 0) rfl .nil) ?_
    exact ⟨_, _, (.refl _), ok.wh, _, F_some hF, rfl, rfl⟩
theorem F_cmp_Or_int_ok {β : Type} {f : Int → Option β} {G : β → Prop} {R : D → Heap → Prop} {p0 : List Int} (h : Heap) (hF : OptP ((F_cmp_Or_int p0).bind f) G) (hk : ∀ r, F_cmp_Or_int p0 = some r → OptP (f r) G → R (.I r) h) : CallsA Tryz.prog 107 [.sl 1 (List.map c_i64 p0) 0] h R := by
  obtain ⟨r0, hr, hF⟩ := F_bind hF
  refine (F_cmp_Or_int_w (G := fun r => r = r0) p0 h ⟨r0, hr, rfl⟩).mono ?_
  rintro _ _ ⟨r, rfl, rfl, rfl⟩
  exact hk _ hr hF
theorem F_scope_Scope_Attrs_1_w (p0 : T_api_Attr) (p1 : T_api_Attr) {G : Int → Prop} (h : Heap) (hF : OptP (F_scope_Scope_Attrs_1 p0 p1) G) : CallsA Tryz.prog 139 [.agg (c_T_api_Attr p0), .agg (c_T_api_Attr p1)] h fun d h' => ∃ r, G r ∧ d = .I r ∧ h' = h := by
  refine CallsA.ret (C_body Tryz.func139 rfl en_139 Tryz.ntmps139 rfl (fun ok => ?_))
  rw [F_scope_Scope_Attrs_1] at hF
  refine CR (S_box0 rfl rfl rfl rfl (S_box0 rfl rfl rfl rfl (Ai rfl (Sn (C_seq ?_)))))
  refine C_plan (mdl [(7, 3), (10, 3), (14, 3), (17, 3)]) [0, 1, 2, 3, 4, 5, 7, 8, 9, 10, 11, 12, 6, 13, 14, 15, 16] [_, _, _, _, _, _, _, _, _, _, _, _, _, _, _, _, _] (by kernel_rfl) rfl rfl (by kernel_rfl) ?_
  refine S_faQ rfl ty_fd_110_0 ty_sz_26 rfl (S_faQ rfl ty_fd_26_0 ty_sz_9 rfl (S_ldQ rfl (p_one ty_ag_9 ty_sz_9 rfl) (S_faQ rfl ty_fd_110_0 ty_sz_26 rfl (S_faQ rfl ty_fd_26_0 ty_sz_9 rfl (S_ldQ rfl (p_one ty_ag_9 ty_sz_9 rfl) (S_faQ rfl ty_fd_110_0 ty_sz_26 rfl (S_faQ rfl ty_fd_26_1 ty_sz_9 rfl (S_ldQ rfl (p_one ty_ag_9 ty_sz_9 rfl) (S_faQ rfl ty_fd_110_0 ty_sz_26 rfl (S_faQ rfl ty_fd_26_1 ty_sz_9 rfl (S_ldQ rfl (p_one ty_ag_9 ty_sz_9 rfl) (S_call (F_cmp_Compare_string_ok _ hF fun x1 _ hF => (S_call (F_cmp_Compare_string_ok _ hF fun x2 _ hF => ?_) (.refl _))) (.refl _)))))))))))))
  refine S_lit0 (cs := [.I x1, .I x2]) (es := (List.map c_i64 [x1, x2])) rfl ty_el_210 rfl (by kernel_rfl) (by kernel_rfl) ?_
  refine S_call (F_cmp_Or_int_ok _ hF fun x3 _ hF => (Ai rfl (Sn (WP_ret ?_)))) (.refl _)
  with_reducible repeat first | apply Exit.sr | apply Exit.br | apply Exit.jr
  refine C_ret (fn := Tryz.f139) rfl (.tmp (v := .I x3) rfl .nil) ?_
  exact ⟨_, _, (.refl _), ok.wh, _, F_some hF, rfl, rfl⟩
theorem F_scope_Scope_Attrs_w (p0 : T_scope_Scope) (p1 : List TP) {G : (List T_api_Attr) × Int → Prop} (h : Heap) (hF : OptP (F_scope_Scope_Attrs p0 p1) G) : CallsA Tryz.prog 89 [.agg (c_T_scope_Scope p0), .sl 2 (List.map cP p1) 0] h fun d h' => ∃ r, G r ∧ d = .tup [.sl 3 (List.map c_T_api_Attr r.1) 0, .I r.2] ∧ h' = h := by
  refine CallsA.ret (C_body Tryz.func89 rfl en_89 Tryz.ntmps89 rfl (fun ok => ?_))
  rw [F_scope_Scope_Attrs] at hF
  refine CR (S_box0 rfl rfl rfl rfl (S_a (v := .snil) rfl (S_one 4 (v := .sl 3 (List.map c_T_api_Attr ([] : List T_api_Attr)) 0) (.nil _) (Ai rfl (Sn (CR (S_a (v := .snil) rfl (S_nilB c_T_api_Attr ok (fun ok => Sn ?_)))))))))
  refine C_join hF (fun (a37 : (List T_api_Attr)) s' => ∃ g36 : Nat, (g36 = 0 → a37 = []) ∧ OK h [mo g36 c_T_api_Attr a37] ∧ WS s' ⟨mkSl 82 [(6, mslO 3 g36 a37)], Hp h [mo g36 c_T_api_Attr a37]⟩) (fun J38 hF => ?_) ?_
  · refine CR (Ml rfl (S_lenL rfl ty_sl_64 (Mi rfl (Sn (WP_block ?_)))))
    refine C_loop (σ := (List T_api_Attr) × Int) hF (fun (v : (List T_api_Attr) × Int) s' => match v with | (a40, a41) => ∃ g39 : Nat, (g39 = 0 → a40 = []) ∧ OK h [mo g39 c_T_api_Attr a40] ∧ WS s' ⟨mkSl 82 [(2, .iptr (c_T_scope_Scope p0)), (6, mslO 3 g39 a40), (17, .sl 2 (List.map cP p1) 0), (18, .I (p1.length : Int)), (19, .I a41)], Hp h [mo g39 c_T_api_Attr a40]⟩) ?_ ?_
    · exact ⟨0, (fun _ => rfl), ok, WS.mk' (.k (.k (.k (.k (.k .nil))))) ok (.refl _)⟩
    · rintro G42 hG43 rec44 ⟨a40, a41⟩ s' ih45 hF ⟨g39, zg39, ok, hws⟩
      refine WP_ws hws ?_
      clear hws s'
      rw [F_scope_Scope_Attrs_l0] at hF
      refine CR (S_bin rfl rfl (ev_lss ..) (Sn (C_seq ?_)))
      refine C_if (b := (decide (a41 < (p1.length : Int)))) rfl hF (fun hb46 hF => ?_) (fun hb46 hF => ?_)
      · refine WP_skip ?_
        refine C_join hF (fun (a62 : (List T_api_Attr)) s' => ∃ g61 : Nat, (g61 = 0 → a62 = []) ∧ OK h [mo g61 c_T_api_Attr a62] ∧ WS s' ⟨mkSl 82 [(2, .iptr (c_T_scope_Scope p0)), (6, mslO 3 g61 a62), (17, .sl 2 (List.map cP p1) 0), (18, .I (p1.length : Int)), (19, .I a41)], Hp h [mo g61 c_T_api_Attr a62]⟩) (fun J63 hF => ?_) ?_
        · refine WP_block (C_seq (C_reg (mdl [(8, 1)]) (S_ix rfl rfl ty_sl_64 ty_sz_161 hF (fun x64 _ hF => S_ldQ rfl (p_agg (vs := cP x64) ty_ag_161 ty_sz_161 rfl rfl) (S_all1 ok rfl ty_zc_161 ?_)))))
          intro i65 hi65 ok
          refine S_st (j := 0) (cs' := [.str x64.Name, .str x64.Value]) ok rfl rfl rfl hi65 rfl ty_sz_161 rfl rfl (fun ok => Sn (C_seq (CR (S_ldP (j := 0) ok rfl rfl rfl hi65 (p_agg (vs := cP x64) ty_ag_161 ty_sz_161 rfl rfl) (S_call (F_scope_declares_ok _ hF fun x66 _ hF => (S_m (v := .tup _) rfl (S_ext rfl rfl (S_ext rfl rfl (S_a (v := .str _) rfl (Ab rfl (Sn (CR (Mb rfl (Sn ?_)))))))))) (.refl _))))))
          refine C_if (b := x66.2) rfl hF (fun hb67 hF => ?_) (fun hb67 hF => ?_)
          · refine WP_exit ?_
            simp only [Exit.sel, Exit.blk, Exit.jmp, if_true, if_false, reduceIte, Nat.reduceEqDiff, Nat.succ_ne_zero, Nat.zero_ne_one, Nat.one_ne_zero]
            have hwo : WO [(i65, .cells [.str x64.Name, .str x64.Value]), mo g39 c_T_api_Attr a40] [mo g39 c_T_api_Attr a40] := (.drop (.keep .nil))
            exact ⟨a40, hF, g39, zg39, (hwo.spec ok).1, WS.mk' (.k (.k (.k (.k (.k .nil))))) ok hwo⟩
          · refine WP_skip (C_seq (C_reg (mdl [(11, 1)]) (S_ldQ rfl (p_agg (vs := c_T_scope_Scope p0) ty_ag_57 ty_sz_57 rfl rfl) (S_faP rfl ty_fd_161_0 ty_sz_9 (S_ldP (j := 0) ok rfl rfl rfl hi65 (p_one (v := .str x64.Name) ty_ag_9 ty_sz_9 rfl) (S_call (F_scope_Scope_Element_ok _ hF fun x68 _ hF => (S_m (v := .tup _) rfl (S_ext rfl rfl (S_ext rfl rfl (S_all1 ok rfl ty_zc_26 ?_))))) (.refl _)))))))
            intro i69 hi69 ok
            refine S_st (j := 0) (cs' := [.str x68.1.URI, .str x68.1.Local]) ok rfl rfl rfl hi69 rfl ty_sz_26 rfl rfl (fun ok => Ai rfl (Sn (C_seq (CR (Mi rfl (S_bin rfl rfl (ev_neq ..) (Sn ?_)))))))
            refine C_if (b := (x68.2 != (0 : Int))) rfl hF (fun hb70 hF => ?_) (fun hb70 hF => ?_)
            · refine CR (Mi rfl (S_a (v := .snil) rfl (S_one 4 (v := .sl 3 (List.map c_T_api_Attr ([] : List T_api_Attr)) 0) (.nil _) (Ai rfl (Sn (WP_ret ?_))))))
              replace hF := hG43 _ (F_some hF)
              with_reducible repeat first | apply Exit.sr | apply Exit.br | apply Exit.jr
              refine C_ret (fn := Tryz.f89) rfl (.tmp (v := .sl 3 (List.map c_T_api_Attr ([] : List T_api_Attr)) 0) rfl (.tmp (v := .I x68.2) rfl .nil)) ?_
              exact ⟨_, _, (.refl _), ok.wh, _, F_some hF, rfl, rfl⟩
            · refine WP_skip ?_
              refine C_join hF (fun (a73 : LB) s' => OK h [(i69, .cells [.str a73, .str x68.1.Local]), (i65, .cells [.str x64.Name, .str x64.Value]), mo g39 c_T_api_Attr a40] ∧ WS s' ⟨mkSl 82 [(2, .iptr (c_T_scope_Scope p0)), (6, mslO 3 g39 a40), (8, .ptr i65 0), (11, .ptr i69 0), (17, .sl 2 (List.map cP p1) 0), (18, .I (p1.length : Int)), (19, .I a41)], Hp h [(i69, .cells [.str a73, .str x68.1.Local]), (i65, .cells [.str x64.Name, .str x64.Value]), mo g39 c_T_api_Attr a40]⟩) (fun J74 hF => ?_) ?_
              · refine CR (S_faP rfl ty_fd_161_0 ty_sz_9 (S_ldP (j := 1) ok rfl rfl rfl hi65 (p_one (v := .str x64.Name) ty_ag_9 ty_sz_9 rfl) (S_call (F_char_Split_ok _ hF fun x75 _ hF => (S_m (v := .tup _) rfl (S_ext rfl rfl (S_ext rfl rfl (S_ext rfl rfl (S_a (v := .str _) rfl (S_a (v := .str _) rfl (Ab rfl (Sn (CR (Ms rfl (S_bin rfl rfl e_seql (Sn ?_))))))))))))) (.refl _))))
                refine C_if (b := (x75.1 == nB)) rfl hF (fun hb76 hF => ?_) (fun hb76 hF => ?_)
                · refine C_reg (mdl []) (S_faP rfl ty_fd_26_0 ty_sz_9 (S_st (j := 0) (cs' := [.str nB, .str x68.1.Local]) ok rfl rfl rfl hi69 rfl ty_sz_9 rfl rfl (fun ok => Sn ?_)))
                  exact ⟨nB, hF, ok, WS.mk' (.k (.k (.k (.k (.k (.k (.k .nil))))))) ok (.refl _)⟩
                · refine WP_skip ?_
                  exact ⟨x68.1.URI, hF, ok, WS.mk' (.k (.k (.k (.k (.k (.k (.k .nil))))))) ok (.refl _)⟩
              · rintro a73 s' hF ⟨ok, hws⟩
                refine WP_ws hws ?_
                clear hws s'
                refine C_reg (mdl [(55, 1)]) (S_m (v := mslO _ _ _) rfl (S_ldP (j := 0) ok rfl rfl rfl hi69 (p_agg (vs := c_T_api_Name (⟨a73, x68.1.Local⟩ : T_api_Name)) ty_ag_26 ty_sz_26 rfl rfl) (S_faP rfl ty_fd_161_1 ty_sz_9 (S_ldP (j := 1) ok rfl rfl rfl hi65 (p_one (v := .str x64.Value) ty_ag_9 ty_sz_9 rfl) (S_bld (v := .agg (c_T_api_Attr (⟨(⟨a73, x68.1.Local⟩ : T_api_Name), x64.Value⟩ : T_api_Attr))) (b_st ty_zc_110 ty_pl_110 rfl) ?_)))))
                refine S_lit0 (cs := [.str (⟨(⟨a73, x68.1.Local⟩ : T_api_Name), x64.Value⟩ : T_api_Attr).Name.URI, .str (⟨(⟨a73, x68.1.Local⟩ : T_api_Name), x64.Value⟩ : T_api_Attr).Name.Local, .str (⟨(⟨a73, x68.1.Local⟩ : T_api_Name), x64.Value⟩ : T_api_Attr).Value]) (es := (List.map c_T_api_Attr [(⟨(⟨a73, x68.1.Local⟩ : T_api_Name), x64.Value⟩ : T_api_Attr)])) rfl ty_el_27 rfl (by kernel_rfl) (by kernel_rfl) ?_
                refine S_appO (j := 2) (M := [(⟨(⟨a73, x68.1.Local⟩ : T_api_Name), x64.Value⟩ : T_api_Attr)]) ok zg39 rfl rfl src_sl (fun _ => rfl) rfl ty_el_27 ty_ni_27 hF ?_
                intro u77 zu77 ok hF
                obtain ⟨a78, ha78, hF⟩ := F_let hF
                rw [← ha78] at ok zu77
                rw [← ha78]
                refine S_a (v := mslO _ _ _) rfl (Sn ?_)
                have hwo : WO [(i69, .cells [.str a73, .str x68.1.Local]), (i65, .cells [.str x64.Name, .str x64.Value]), mo u77 c_T_api_Attr a78] [mo u77 c_T_api_Attr a78] := (.drop (.drop (.keep .nil)))
                exact ⟨a78, hF, u77, zu77, (hwo.spec ok).1, WS.mk' (.k (.k (.k (.k (.k .nil))))) ok hwo⟩
        · rintro a62 s' hF ⟨g61, zg61, ok, hws⟩
          refine WP_ws hws ?_
          clear hws s'
          refine C_reg (mdl []) (S_bin rfl rfl (ev_add ..) (Mi rfl (Sn (ih45 (a62, (IntKind.wrap .i64 (a41 + (1 : Int)))) _ hF ?_))))
          exact ⟨g61, zg61, ok, WS.mk' (.k (.k (.k (.k (.k .nil))))) ok (.refl _)⟩
      · refine WP_exit ?_
        simp only [Exit.sel, Exit.blk, Exit.jmp, if_true, if_false, reduceIte, Nat.reduceEqDiff, Nat.succ_ne_zero, Nat.zero_ne_one, Nat.one_ne_zero]
        replace hF := hG43 _ (F_some hF)
        exact ⟨a40, hF, g39, zg39, ok, WS.mk' (.k .nil) ok (.refl _)⟩
  · rintro a37 s' hF ⟨g36, zg36, ok, hws⟩
    refine WP_ws hws ?_
    clear hws s'
    refine CR (S_m (v := mslO _ _ _) rfl (S_call (F_slices_SortStableFunc_api_Attr_api_Attr_ok (p0 := a37) (f1 := 139) (fi1 := []) (ca1 := []) (b0 := g36) h [] (fun z0 z1 G h hF => F_scope_Scope_Attrs_1_w z0 z1 h hF) zg36 ok hF fun x79 _ zr80 ok hF => ?_) (.refl _)))
    obtain ⟨a81, ha81, hF⟩ := F_let hF
    obtain ⟨_, hl82, hF⟩ := F_bind hF
    rw [← ha81] at ok zr80
    rw [← ha81]
    have hms : mslO 3 g36 a37 = mslO 3 g36 a81 := mslO_len (eqL_spec hl82)
    try rw [hms] at ok
    try rw [hms]
    clear hms
    refine Sn ?_
    refine C_join hF (fun (_ : Unit) s' => OK h [mo g36 c_T_api_Attr a81] ∧ WS s' ⟨mkSl 82 [(6, mslO 3 g36 a81)], Hp h [mo g36 c_T_api_Attr a81]⟩) (fun J95 hF => ?_) ?_
    · refine CR (S_m (v := mslO _ _ _) rfl (S_lenO zr80 rfl ty_sl_27 (Mi rfl (Sn (WP_block ?_)))))
      refine C_loop (σ := Int) hF (fun (a96 : Int) s' => OK h [mo g36 c_T_api_Attr a81] ∧ WS s' ⟨mkSl 82 [(6, mslO 3 g36 a81), (60, .I (a81.length : Int)), (61, .I a96)], Hp h [mo g36 c_T_api_Attr a81]⟩) ?_ ?_
      · exact ⟨ok, WS.mk' (.k (.k (.k .nil))) ok (.refl _)⟩
      · rintro G97 hG98 rec99 a96 s' ih100 hF ⟨ok, hws⟩
        refine WP_ws hws ?_
        clear hws s'
        rw [F_scope_Scope_Attrs_l1] at hF
        refine CR (S_bin rfl rfl (ev_lss ..) (Sn (C_seq ?_)))
        refine C_if (b := (decide (a96 < (a81.length : Int)))) rfl hF (fun hb101 hF => ?_) (fun hb101 hF => ?_)
        · refine WP_skip (C_seq (WP_block (CR (Mi rfl (Ai rfl (Sn ?_))))))
          refine C_join hF (fun (a106 : Bool) s' => OK h [mo g36 c_T_api_Attr a81] ∧ WS s' ⟨mkSl 82 [(6, mslO 3 g36 a81), (60, .I (a81.length : Int)), (61, .I a96), (79, .bool a106)], Hp h [mo g36 c_T_api_Attr a81]⟩) (fun J107 hF => ?_) ?_
          · refine C_drw (mdl []) (by kernel_rfl) (by kernel_rfl) ?_
            refine Mi rfl (S_bin rfl rfl (ev_gtr ..) (Mb rfl ?_))
            refine S_if (b := (decide ((0 : Int) < a96))) hF (fun hb108 hF => ?_) (fun hb109 hF => ?_)
            · refine Sx rfl rfl hb108 (S_m (v := mslO _ _ _) rfl (Sn (Sx rfl rfl hb108 (Mi rfl (Sn (Sx rfl rfl hb108 (S_ixO zr80 rfl rfl ty_sl_27 ty_sz_110 hF (fun x110 hx110 hF => Sn (Sx rfl rfl hb108 (S_faP rfl ty_fd_110_0 ty_sz_26 (Sn (Sx rfl rfl hb108 (S_ldO (q := 3) (j := 0) (f0 := 0) ok rfl zr80 rfl rfl (fun _ => rfl) hx110 rfl rfl (p_agg (vs := c_T_api_Name x110.Name) ty_ag_26 ty_sz_26 rfl rfl) (Sn (Sx rfl rfl hb108 (S_m (v := mslO _ _ _) rfl (Sn (Sx rfl rfl hb108 (Mi rfl (Sn (Sx rfl rfl hb108 (S_bin rfl rfl (ev_sub ..) (Sn (Sx rfl rfl hb108 (S_ixO zr80 rfl rfl ty_sl_27 ty_sz_110 hF (fun x111 hx111 hF => Sn (Sx rfl rfl hb108 (S_faP rfl ty_fd_110_0 ty_sz_26 (Sn ?_)))))))))))))))))))))))))))))
              refine Sx rfl rfl hb108 (S_ldO (q := 3) (j := 0) (f0 := 0) ok rfl zr80 rfl rfl (fun _ => rfl) hx111 rfl rfl (p_agg (vs := c_T_api_Name x111.Name) ty_ag_26 ty_sz_26 rfl rfl) (Sn (Sx rfl rfl hb108 ?_)))
              refine S_bin rfl rfl (e_agg (b := ((x110.Name.URI == x111.Name.URI) && ((x110.Name.Local == x111.Name.Local) && true))) ty_qg_26 ty_sf_26 (by simp only [c_T_api_Name, ev_eqF_cons, ev_eqF_nil, ev_part, ty_sf_26, ty_qg_26, ty_ag_9, ty_sz_9, ty_st_9, ty_ag_9, ty_sz_9, ty_st_9, ev_eq_int, ev_eq_str, ev_eq_bool, ev_eq_agg, ev_eq_int2, ev_eq_str2, ev_eq_bool2, List.drop_zero, List.drop_succ_cons, List.length_cons, List.length_nil, List.take_succ_cons, List.take_zero, Option.isSome_some, if_true, Option.bind_some, Option.map_some, Nat.reduceAdd, Nat.reduceLeDiff])) ?_
              refine Sn (S_pickT (v := .bool _) rfl hb108 rfl (Sn ?_))
              exact ⟨((x110.Name.URI == x111.Name.URI) && ((x110.Name.Local == x111.Name.Local) && true)), hF, ok, WS.mk' (.k (.k (.k (.k .nil)))) ok (.refl _)⟩
            · refine So rfl rfl hb109 (So rfl rfl hb109 (So rfl rfl hb109 (So rfl rfl hb109 (So rfl rfl hb109 (So rfl rfl hb109 (So rfl rfl hb109 (So rfl rfl hb109 (So rfl rfl hb109 (So rfl rfl hb109 (So rfl rfl hb109 (So rfl rfl hb109 (S_pickF (v := .bool _) rfl hb109 rfl (Sn ?_)))))))))))))
              exact ⟨false, hF, ok, WS.mk' (.k (.k (.k (.k .nil)))) ok (.refl _)⟩
          · rintro a106 s' hF ⟨ok, hws⟩
            refine WP_ws hws ?_
            clear hws s'
            refine C_if (b := a106) rfl hF (fun hb112 hF => ?_) (fun hb112 hF => ?_)
            · refine CR (S_a (v := .snil) rfl (S_one 4 (v := .sl 3 (List.map c_T_api_Attr ([] : List T_api_Attr)) 0) (.nil _) (Ai rfl (Sn (WP_ret ?_)))))
              replace hF := hG98 _ (F_some hF)
              with_reducible repeat first | apply Exit.sr | apply Exit.br | apply Exit.jr
              refine C_ret (fn := Tryz.f89) rfl (.tmp (v := .sl 3 (List.map c_T_api_Attr ([] : List T_api_Attr)) 0) rfl (.tmp (v := .I 27) rfl .nil)) ?_
              exact ⟨_, _, (.refl _), ok.wh, _, F_some hF, rfl, rfl⟩
            · refine WP_skip (C_reg (mdl []) (S_bin rfl rfl (ev_add ..) (Mi rfl (Sn (ih100 (IntKind.wrap .i64 (a96 + (1 : Int))) _ hF ?_)))))
              exact ⟨ok, WS.mk' (.k (.k (.k .nil))) ok (.refl _)⟩
        · refine WP_exit ?_
          simp only [Exit.sel, Exit.blk, Exit.jmp, if_true, if_false, reduceIte, Nat.reduceEqDiff, Nat.succ_ne_zero, Nat.zero_ne_one, Nat.one_ne_zero]
          replace hF := hG98 _ (F_some hF)
          exact ⟨(), hF, ok, WS.mk' (.k .nil) ok (.refl _)⟩
    · rintro ⟨⟩ s' hF ⟨ok, hws⟩
      refine WP_ws hws ?_
      clear hws s'
      refine CR (S_m (v := mslO _ _ _) rfl (S_a (v := mslO _ _ _) rfl (S_frzO 0 4 ok zr80 rfl rfl (fun _ => rfl) (fun ok => Ai rfl (Sn (WP_ret ?_))))))
      with_reducible repeat first | apply Exit.sr | apply Exit.br | apply Exit.jr
      refine C_ret (fn := Tryz.f89) rfl (.tmp (v := .sl 3 (List.map c_T_api_Attr a81) 0) rfl (.tmp (v := .I 0) rfl .nil)) ?_
      exact ⟨_, _, (.refl _), ok.wh, _, F_some hF, rfl, rfl⟩
theorem F_scope_Scope_Attrs_ok {β : Type} {f : (List T_api_Attr) × Int → Option β} {G : β → Prop} {R : D → Heap → Prop} {p0 : T_scope_Scope} {p1 : List TP} (h : Heap) (hF : OptP ((F_scope_Scope_Attrs p0 p1).bind f) G) (hk : ∀ r, F_scope_Scope_Attrs p0 p1 = some r → OptP (f r) G → R (.tup [.sl 3 (List.map c_T_api_Attr r.1) 0, .I r.2]) h) : CallsA Tryz.prog 89 [.agg (c_T_scope_Scope p0), .sl 2 (List.map cP p1) 0] h R := by
  obtain ⟨r0, hr, hF⟩ := F_bind hF
  refine (F_scope_Scope_Attrs_w (G := fun r => r = r0) p0 p1 h ⟨r0, hr, rfl⟩).mono ?_
  rintro _ _ ⟨r, rfl, rfl, rfl⟩
  exact hk _ hr hF
theorem F_parse_reader_begin_w (p0 : T_parse_reader) (p1 : TK) (q0 : Nat) (b0_0 : Nat) (x0 : List (T_parse_open × Nat)) {G : Int × T_parse_reader → Prop} (h : Heap) (O : List (Nat × AObj)) (hq0 : q0 ≠ 0) (hb0_0 : b0_0 ≠ 0) (hx0 : List.map Prod.fst x0 = p0.open_) (zk0 : zkR x0) (ok : OK h ((q0, .cells [.msl 8 b0_0 0 (List.length p0.open_), .I p0.nodes, .bool p0.done]) :: (b0_0, .cells (fl cK (List.reverse x0))) :: (hidR x0 ++ O))) (hF : OptP (F_parse_reader_begin p0 p1) G) : CallsA Tryz.prog 51 [.ptr q0 0, .agg (cTK p1)] (Hp h ((q0, .cells [.msl 8 b0_0 0 (List.length p0.open_), .I p0.nodes, .bool p0.done]) :: (b0_0, .cells (fl cK (List.reverse x0))) :: (hidR x0 ++ O))) fun d h' => ∃ r, G r ∧ d = .I r.1 ∧ ∃ (b0_0' : Nat) (x0' : List (T_parse_open × Nat)), b0_0' ≠ 0 ∧ List.map Prod.fst x0' = r.2.open_ ∧ zkR x0' ∧ OK h ((q0, .cells [.msl 8 b0_0' 0 (List.length r.2.open_), .I r.2.nodes, .bool r.2.done]) :: (b0_0', .cells (fl cK (List.reverse x0'))) :: (hidR x0' ++ O)) ∧ h' = Hp h ((q0, .cells [.msl 8 b0_0' 0 (List.length r.2.open_), .I r.2.nodes, .bool r.2.done]) :: (b0_0', .cells (fl cK (List.reverse x0'))) :: (hidR x0' ++ O)) := by
  refine CallsA.ret (C_bodyO Tryz.func51 rfl en_51 Tryz.ntmps51 rfl ?_)
  rw [F_parse_reader_begin] at hF
  refine CR (S_box0 rfl rfl rfl rfl (Ai rfl (Sn (C_seq (WP_block (CR (Mp rfl (S_nilc (v := .ptr _ _) rfl rfl (S_faP rfl ty_fd_63_0 ty_sz_61 (S_ldP (j := 0) ok rfl rfl rfl hq0 (p_one (v := .msl 8 b0_0 0 (List.length p0.open_)) ty_ag_61 ty_sz_61 rfl) (S_lenM (e := p0.open_) rfl ty_sl_61 (S_bin rfl rfl (ev_eql ..) (Mb rfl ?_)))))))))))))
  refine S_twoJ 5 23 hF (fun J2 hb1 hF => ?_) (fun J2 hb1 hF => ?_) (fun v3 hF => ?_)
  · refine Sx rfl rfl hb1 (Mp rfl (Sn (Sx rfl rfl hb1 (S_nilc (v := .ptr _ _) rfl rfl (Sn (Sx rfl rfl hb1 (S_faP rfl ty_fd_63_2 ty_sz_4 (Sn (Sx rfl rfl hb1 (S_ldP (j := 0) ok rfl rfl rfl hq0 (p_one (v := .bool p0.done) ty_ag_4 ty_sz_4 rfl) (Sn (S_pickT (v := .bool _) rfl hb1 rfl (Sn ?_)))))))))))))
    refine ⟨_, hF, .hd (.refl _) ?_⟩
    repeat first | with_reducible exact .refl _ | refine .add ?_ rfl | exact .refl _
  · refine So rfl rfl hb1 (So rfl rfl hb1 (So rfl rfl hb1 (So rfl rfl hb1 (S_pickF (v := .bool _) rfl hb1 rfl (Sn ?_)))))
    refine ⟨_, hF, .hd (.refl _) ?_⟩
    repeat first | with_reducible exact .refl _ | refine .add ?_ rfl | exact .refl _
  · refine Ab rfl (Sn ?_)
    refine C_if (b := v3) rfl hF (fun hb4 hF => ?_) (fun hb4 hF => ?_)
    · refine CR (Ai rfl (Sn (WP_ret ?_)))
      with_reducible repeat first | apply Exit.sr | apply Exit.br | apply Exit.jr
      refine C_ret (fn := Tryz.f51) rfl (.tmp (v := .I 30) rfl .nil) ?_
      exact ⟨_, _, (.refl _), .refl _, _, F_some hF, rfl, b0_0, x0, hb0_0, hx0, zk0, ok, rfl⟩
    · refine CR (Mp rfl (S_nilc (v := .ptr _ _) rfl rfl (S_faP rfl ty_fd_63_0 ty_sz_61 (S_ldP (j := 0) ok rfl rfl rfl hq0 (p_one (v := .msl 8 b0_0 0 (List.length p0.open_)) ty_ag_61 ty_sz_61 rfl) (S_lenM (e := p0.open_) rfl ty_sl_61 (S_bin rfl rfl (ev_sub ..) (S_bin rfl rfl (ev_gtr ..) (Ab rfl (Sn ?_)))))))))
      refine C_if (b := (decide ((32 : Int) < (IntKind.wrap .i64 ((p0.open_.length : Int) - (1 : Int)))))) rfl hF (fun hb5 hF => ?_) (fun hb5 hF => ?_)
      · refine CR (Ai rfl (Sn (WP_ret ?_)))
        with_reducible repeat first | apply Exit.sr | apply Exit.br | apply Exit.jr
        refine C_ret (fn := Tryz.f51) rfl (.tmp (v := .I 31) rfl .nil) ?_
        exact ⟨_, _, (.refl _), .refl _, _, F_some hF, rfl, b0_0, x0, hb0_0, hx0, zk0, ok, rfl⟩
      · refine WP_skip ?_
        refine C_join hF (fun (v : (List T_scope_bind) × Int) s' => match v with | (a39, a40) => ∃ g38 : Nat, g38 ≠ 0 ∧ OK h ((g38, .cells [.sl 2 (List.map c_T_scope_bind a39) 0]) :: (q0, .cells [.msl 8 b0_0 0 (List.length p0.open_), .I p0.nodes, .bool p0.done]) :: (b0_0, .cells (fl cK (List.reverse x0))) :: (hidR x0 ++ O)) ∧ WS s' ⟨mkSl 105 [(0, .ptr q0 0), (3, .iptr (cTK p1)), (5, .ptr g38 0), (6, .I a40)], Hp h ((g38, .cells [.sl 2 (List.map c_T_scope_bind a39) 0]) :: (q0, .cells [.msl 8 b0_0 0 (List.length p0.open_), .I p0.nodes, .bool p0.done]) :: (b0_0, .cells (fl cK (List.reverse x0))) :: (hidR x0 ++ O))⟩) (fun J41 hF => ?_) ?_
        · refine WP_any N0 (mdl [(5, 1), (39, 3)]) (gamma0 _) (by kernel_rfl) ?_
          refine A_seq [0, 5, 6] [_, _, _] 11 #[true, false, false, false, false, true, true, false, false, false, false, false, false, false] rfl rfl (by kernel_rfl) (by kernel_rfl) ?_
          refine Mp rfl (S_faQ rfl ty_fd_66_3 ty_sz_64 rfl (S_ldQ rfl (p_one ty_ag_64 ty_sz_64 rfl) (Sn ?_)))
          refine A_two 1 11 _ _ #[true, true, false, false, false, true, true, false, false, false, false, false, false, false] #[true, false, false, false, false, true, true, false, false, false, false, true, false, false] (by kernel_rfl) rfl rfl (by kernel_rfl) (by kernel_rfl) ?_ ?_
          · refine S_call (top_ok (e := p0.open_) (j := 0) ok rfl hq0 hF fun x42 he43 hF => ?_) (.k .nil)
            obtain ⟨t44, xs45, rfl, hx46⟩ := stk_open hx0 he43
            have zt47 := (zkR_cons.1 zk0).1
            have zs48 := (zkR_cons.1 zk0).2
            have hp49 := fl_len cK_len hx46
            have hck : cK (x42.1, t44) = [.I x42.1.node.Kind, .str x42.1.node.Name.URI, .str x42.1.node.Name.Local, .sl 3 (List.map c_T_api_Attr x42.1.node.Attrs) 0, mslO 6 t44 x42.1.node.Kids, .str x42.1.node.Text, .str x42.1.raw, .sl 2 (List.map c_T_scope_bind x42.1.in_.binds) 0] := rfl
            rw [fl_rev, hidR_cons, List.cons_append, hck] at ok
            rw [fl_rev, hidR_cons, List.cons_append, hck]
            clear hck
            refine Sn ?_
            refine A_seq [2, 3] [_, _] 8 #[true, true, true, true, false, true, true, false, false, false, false, false, false, false] rfl rfl (by kernel_rfl) (by kernel_rfl) ?_
            refine S_nilc (v := .ptr _ _) rfl rfl (S_faP rfl ty_fd_60_2 ty_sz_57 (Sn ?_))
            refine A_two 4 11 _ _ #[true, true, true, true, true, true, true, false, false, false, false, false, false, false] #[true, true, true, true, false, true, true, false, false, false, false, true, false, false] (by kernel_rfl) rfl rfl (by kernel_rfl) (by kernel_rfl) ?_ ?_
            · refine S_ldK (j := 1) (f0 := 7) ok rfl rfl rfl hb0_0 (by omega) (p_agg (vs := c_T_scope_Scope x42.1.in_) ty_ag_57 ty_sz_57 rfl rfl) ?_
              refine Sn ?_
              refine A_seq [] [] 7 #[true, true, true, true, true, true, true, false, false, false, false, false, false, false] rfl rfl (by kernel_rfl) (by kernel_rfl) ?_
              refine Sn ?_
              refine A_two 7 11 _ _ #[true, true, true, true, true, true, true, true, false, false, false, false, false, false] #[true, true, true, true, true, true, true, false, false, false, false, true, false, false] (by kernel_rfl) rfl rfl (by kernel_rfl) (by kernel_rfl) ?_ ?_
              · refine S_call (F_scope_Scope_Open_ok _ hF fun x50 _ hF => (Sn ?_)) (.refl _)
                refine A_seq [8, 9, 10, 11, 12, 13] [_, _, _, _, _, _] 0 #[true, true, true, true, true, true, true, true, true, true, true, true, true, true] rfl rfl (by kernel_rfl) (by kernel_rfl) ?_
                refine S_m (v := .tup _) rfl (S_ext rfl rfl (S_ext rfl rfl (S_all1 ok rfl ty_zc_57 ?_)))
                intro i51 hi51 ok
                refine S_st (j := 0) (cs' := [.sl 2 (List.map c_T_scope_bind x50.1.binds) 0]) ok rfl rfl rfl hi51 rfl ty_sz_57 rfl rfl (fun ok => Ai rfl (Sn ?_))
                refine A_end (by kernel_rfl) ?_
                have hck : cK (x42.1, t44) = [.I x42.1.node.Kind, .str x42.1.node.Name.URI, .str x42.1.node.Name.Local, .sl 3 (List.map c_T_api_Attr x42.1.node.Attrs) 0, mslO 6 t44 x42.1.node.Kids, .str x42.1.node.Text, .str x42.1.raw, .sl 2 (List.map c_T_scope_bind x42.1.in_.binds) 0] := rfl
                rw [← hck, ← fl_rev (c := cK)] at ok
                rw [← hck, ← fl_rev (c := cK)]
                clear hck
                have hx52 : List.map Prod.fst ((x42.1, t44) :: xs45) = p0.open_ := by rw [List.map_cons, hx46, he43]
                have zs53 : zkR ((x42.1, t44) :: xs45) := zkR_cons.2 ⟨zt47, zs48⟩
                exact ⟨(x50.1.binds, x50.2), hF, i51, hi51, ok, WS.mk' (.k (.k (.k (.k .nil)))) ok (.refl _)⟩
              · refine S_all1 ok rfl ty_zc_57 ?_
                intro i54 hi54 ok
                refine Sn ?_
                refine A_seq [7, 8, 9, 10, 12, 13] [_, _, _, _, _, _] 0 #[true, true, true, true, true, true, true, true, true, true, true, true, true, true] rfl rfl (by kernel_rfl) (by kernel_rfl) ?_
                refine S_call (F_scope_Scope_Open_ok _ hF fun x55 _ hF => (S_m (v := .tup _) rfl (S_ext rfl rfl (S_ext rfl rfl (S_st (j := 0) (cs' := [.sl 2 (List.map c_T_scope_bind x55.1.binds) 0]) ok rfl rfl rfl hi54 rfl ty_sz_57 rfl rfl (fun ok => Ai rfl (Sn ?_))))))) (.refl _)
                refine A_end (by kernel_rfl) ?_
                have hck : cK (x42.1, t44) = [.I x42.1.node.Kind, .str x42.1.node.Name.URI, .str x42.1.node.Name.Local, .sl 3 (List.map c_T_api_Attr x42.1.node.Attrs) 0, mslO 6 t44 x42.1.node.Kids, .str x42.1.node.Text, .str x42.1.raw, .sl 2 (List.map c_T_scope_bind x42.1.in_.binds) 0] := rfl
                rw [← hck, ← fl_rev (c := cK)] at ok
                rw [← hck, ← fl_rev (c := cK)]
                clear hck
                have hx56 : List.map Prod.fst ((x42.1, t44) :: xs45) = p0.open_ := by rw [List.map_cons, hx46, he43]
                have zs57 : zkR ((x42.1, t44) :: xs45) := zkR_cons.2 ⟨zt47, zs48⟩
                exact ⟨(x55.1.binds, x55.2), hF, i54, hi54, ok, WS.mk' (.k (.k (.k (.k .nil)))) ok (.refl _)⟩
            · refine S_all1 ok rfl ty_zc_57 ?_
              intro i58 hi58 ok
              refine Sn ?_
              refine A_seq [4, 7, 8, 9, 10, 12, 13] [_, _, _, _, _, _, _] 0 #[true, true, true, true, true, true, true, true, true, true, true, true, true, true] rfl rfl (by kernel_rfl) (by kernel_rfl) ?_
              refine S_ldK (j := 2) (f0 := 7) ok rfl rfl rfl hb0_0 (by omega) (p_agg (vs := c_T_scope_Scope x42.1.in_) ty_ag_57 ty_sz_57 rfl rfl) ?_
              refine S_call (F_scope_Scope_Open_ok _ hF fun x59 _ hF => (S_m (v := .tup _) rfl (S_ext rfl rfl (S_ext rfl rfl (S_st (j := 0) (cs' := [.sl 2 (List.map c_T_scope_bind x59.1.binds) 0]) ok rfl rfl rfl hi58 rfl ty_sz_57 rfl rfl (fun ok => Ai rfl (Sn ?_))))))) (.refl _)
              refine A_end (by kernel_rfl) ?_
              have hck : cK (x42.1, t44) = [.I x42.1.node.Kind, .str x42.1.node.Name.URI, .str x42.1.node.Name.Local, .sl 3 (List.map c_T_api_Attr x42.1.node.Attrs) 0, mslO 6 t44 x42.1.node.Kids, .str x42.1.node.Text, .str x42.1.raw, .sl 2 (List.map c_T_scope_bind x42.1.in_.binds) 0] := rfl
              rw [← hck, ← fl_rev (c := cK)] at ok
              rw [← hck, ← fl_rev (c := cK)]
              clear hck
              have hx60 : List.map Prod.fst ((x42.1, t44) :: xs45) = p0.open_ := by rw [List.map_cons, hx46, he43]
              have zs61 : zkR ((x42.1, t44) :: xs45) := zkR_cons.2 ⟨zt47, zs48⟩
              exact ⟨(x59.1.binds, x59.2), hF, i58, hi58, ok, WS.mk' (.k (.k (.k (.k .nil)))) ok (.refl _)⟩
          · refine S_all1 ok rfl ty_zc_57 ?_
            intro i62 hi62 ok
            refine Sn ?_
            refine A_seq [1, 2, 3, 4, 7, 8, 9, 10, 12, 13] [_, _, _, _, _, _, _, _, _, _] 0 #[true, true, true, true, true, true, true, true, true, true, true, true, true, true] rfl rfl (by kernel_rfl) (by kernel_rfl) ?_
            refine S_call (top_ok (e := p0.open_) (j := 1) ok rfl hq0 hF fun x63 he64 hF => ?_) (.k .nil)
            obtain ⟨t65, xs66, rfl, hx67⟩ := stk_open hx0 he64
            have zt68 := (zkR_cons.1 zk0).1
            have zs69 := (zkR_cons.1 zk0).2
            have hp70 := fl_len cK_len hx67
            have hck : cK (x63.1, t65) = [.I x63.1.node.Kind, .str x63.1.node.Name.URI, .str x63.1.node.Name.Local, .sl 3 (List.map c_T_api_Attr x63.1.node.Attrs) 0, mslO 6 t65 x63.1.node.Kids, .str x63.1.node.Text, .str x63.1.raw, .sl 2 (List.map c_T_scope_bind x63.1.in_.binds) 0] := rfl
            rw [fl_rev, hidR_cons, List.cons_append, hck] at ok
            rw [fl_rev, hidR_cons, List.cons_append, hck]
            clear hck
            refine S_nilc (v := .ptr _ _) rfl rfl (S_faP rfl ty_fd_60_2 ty_sz_57 ?_)
            refine S_ldK (j := 2) (f0 := 7) ok rfl rfl rfl hb0_0 (by omega) (p_agg (vs := c_T_scope_Scope x63.1.in_) ty_ag_57 ty_sz_57 rfl rfl) ?_
            refine S_call (F_scope_Scope_Open_ok _ hF fun x71 _ hF => (S_m (v := .tup _) rfl (S_ext rfl rfl (S_ext rfl rfl (S_st (j := 0) (cs' := [.sl 2 (List.map c_T_scope_bind x71.1.binds) 0]) ok rfl rfl rfl hi62 rfl ty_sz_57 rfl rfl (fun ok => Ai rfl (Sn ?_))))))) (.refl _)
            refine A_end (by kernel_rfl) ?_
            have hck : cK (x63.1, t65) = [.I x63.1.node.Kind, .str x63.1.node.Name.URI, .str x63.1.node.Name.Local, .sl 3 (List.map c_T_api_Attr x63.1.node.Attrs) 0, mslO 6 t65 x63.1.node.Kids, .str x63.1.node.Text, .str x63.1.raw, .sl 2 (List.map c_T_scope_bind x63.1.in_.binds) 0] := rfl
            rw [← hck, ← fl_rev (c := cK)] at ok
            rw [← hck, ← fl_rev (c := cK)]
            clear hck
            have hx72 : List.map Prod.fst ((x63.1, t65) :: xs66) = p0.open_ := by rw [List.map_cons, hx67, he64]
            have zs73 : zkR ((x63.1, t65) :: xs66) := zkR_cons.2 ⟨zt68, zs69⟩
            exact ⟨(x71.1.binds, x71.2), hF, i62, hi62, ok, WS.mk' (.k (.k (.k (.k .nil)))) ok (.refl _)⟩
        · rintro ⟨a39, a40⟩ s' hF ⟨g38, hg38, ok, hws⟩
          refine WP_ws hws ?_
          clear hws s'
          refine C_seq (CR (Mi rfl (S_bin rfl rfl (ev_neq ..) (Sn ?_))))
          refine C_if (b := (a40 != (0 : Int))) rfl hF (fun hb74 hF => ?_) (fun hb74 hF => ?_)
          · refine CR (Mi rfl (Ai rfl (Sn (WP_ret ?_))))
            with_reducible repeat first | apply Exit.sr | apply Exit.br | apply Exit.jr
            have hwo : WO ((g38, .cells [.sl 2 (List.map c_T_scope_bind a39) 0]) :: (q0, .cells [.msl 8 b0_0 0 (List.length p0.open_), .I p0.nodes, .bool p0.done]) :: (b0_0, .cells (fl cK (List.reverse x0))) :: (hidR x0 ++ O)) ((q0, .cells [.msl 8 b0_0 0 (List.length p0.open_), .I p0.nodes, .bool p0.done]) :: (b0_0, .cells (fl cK (List.reverse x0))) :: (hidR x0 ++ O)) := (.drop (.keep (.keep (.refl (hidR x0 ++ O)))))
            refine C_ret (fn := Tryz.f51) rfl (.tmp (v := .I a40) rfl .nil) ?_
            exact ⟨_, _, (.refl _), (hwo.spec ok).2.2, _, F_some hF, rfl, b0_0, x0, hb0_0, hx0, zk0, (hwo.spec ok).1, rfl⟩
          · refine WP_skip (C_seq (C_reg (mdl [(7, 1)]) (S_ldP (j := 0) ok rfl rfl rfl hg38 (p_agg (vs := c_T_scope_Scope (⟨a39⟩ : T_scope_Scope)) ty_ag_57 ty_sz_57 rfl rfl) (S_faQ rfl ty_fd_66_2 ty_sz_9 rfl (S_ldQ rfl (p_one ty_ag_9 ty_sz_9 rfl) (S_call (F_scope_Scope_Element_ok _ hF fun x75 _ hF => (S_m (v := .tup _) rfl (S_ext rfl rfl (S_ext rfl rfl (S_all1 ok rfl ty_zc_26 ?_))))) (.refl _)))))))
            intro i76 hi76 ok
            refine S_st (j := 0) (cs' := [.str x75.1.URI, .str x75.1.Local]) ok rfl rfl rfl hi76 rfl ty_sz_26 rfl rfl (fun ok => Ai rfl (Sn (C_seq (CR (Mi rfl (S_bin rfl rfl (ev_neq ..) (Sn ?_)))))))
            refine C_if (b := (x75.2 != (0 : Int))) rfl hF (fun hb77 hF => ?_) (fun hb77 hF => ?_)
            · refine CR (Mi rfl (Ai rfl (Sn (WP_ret ?_))))
              with_reducible repeat first | apply Exit.sr | apply Exit.br | apply Exit.jr
              have hwo : WO ((i76, .cells [.str x75.1.URI, .str x75.1.Local]) :: (g38, .cells [.sl 2 (List.map c_T_scope_bind a39) 0]) :: (q0, .cells [.msl 8 b0_0 0 (List.length p0.open_), .I p0.nodes, .bool p0.done]) :: (b0_0, .cells (fl cK (List.reverse x0))) :: (hidR x0 ++ O)) ((q0, .cells [.msl 8 b0_0 0 (List.length p0.open_), .I p0.nodes, .bool p0.done]) :: (b0_0, .cells (fl cK (List.reverse x0))) :: (hidR x0 ++ O)) := (.drop (.drop (.keep (.keep (.refl (hidR x0 ++ O))))))
              refine C_ret (fn := Tryz.f51) rfl (.tmp (v := .I x75.2) rfl .nil) ?_
              exact ⟨_, _, (.refl _), (hwo.spec ok).2.2, _, F_some hF, rfl, b0_0, x0, hb0_0, hx0, zk0, (hwo.spec ok).1, rfl⟩
            · refine WP_skip (CR (S_ldP (j := 1) ok rfl rfl rfl hg38 (p_agg (vs := c_T_scope_Scope (⟨a39⟩ : T_scope_Scope)) ty_ag_57 ty_sz_57 rfl rfl) (S_faQ rfl ty_fd_66_3 ty_sz_64 rfl (S_ldQ rfl (p_one ty_ag_64 ty_sz_64 rfl) (S_call (F_scope_Scope_Attrs_ok _ hF fun x78 _ hF => (S_m (v := .tup _) rfl (S_ext rfl rfl (S_ext rfl rfl (S_a (v := .sl _ _ _) rfl (Ai rfl (Sn (C_seq (CR (Mi rfl (S_bin rfl rfl (ev_neq ..) (Sn ?_)))))))))))) (.refl _))))))
              refine C_if (b := (x78.2 != (0 : Int))) rfl hF (fun hb79 hF => ?_) (fun hb79 hF => ?_)
              · refine CR (Mi rfl (Ai rfl (Sn (WP_ret ?_))))
                with_reducible repeat first | apply Exit.sr | apply Exit.br | apply Exit.jr
                have hwo : WO ((i76, .cells [.str x75.1.URI, .str x75.1.Local]) :: (g38, .cells [.sl 2 (List.map c_T_scope_bind a39) 0]) :: (q0, .cells [.msl 8 b0_0 0 (List.length p0.open_), .I p0.nodes, .bool p0.done]) :: (b0_0, .cells (fl cK (List.reverse x0))) :: (hidR x0 ++ O)) ((q0, .cells [.msl 8 b0_0 0 (List.length p0.open_), .I p0.nodes, .bool p0.done]) :: (b0_0, .cells (fl cK (List.reverse x0))) :: (hidR x0 ++ O)) := (.drop (.drop (.keep (.keep (.refl (hidR x0 ++ O))))))
                refine C_ret (fn := Tryz.f51) rfl (.tmp (v := .I x78.2) rfl .nil) ?_
                exact ⟨_, _, (.refl _), (hwo.spec ok).2.2, _, F_some hF, rfl, b0_0, x0, hb0_0, hx0, zk0, (hwo.spec ok).1, rfl⟩
              · refine WP_skip ?_
                refine C_join hF (fun (_ : Unit) s' => OK h ((i76, .cells [.str x75.1.URI, .str x75.1.Local]) :: (g38, .cells [.sl 2 (List.map c_T_scope_bind a39) 0]) :: (q0, .cells [.msl 8 b0_0 0 (List.length p0.open_), .I p0.nodes, .bool p0.done]) :: (b0_0, .cells (fl cK (List.reverse x0))) :: (hidR x0 ++ O)) ∧ WS s' ⟨mkSl 105 [(0, .ptr q0 0), (3, .iptr (cTK p1)), (5, .ptr g38 0), (7, .ptr i76 0), (8, .sl 3 (List.map c_T_api_Attr x78.1) 0)], Hp h ((i76, .cells [.str x75.1.URI, .str x75.1.Local]) :: (g38, .cells [.sl 2 (List.map c_T_scope_bind a39) 0]) :: (q0, .cells [.msl 8 b0_0 0 (List.length p0.open_), .I p0.nodes, .bool p0.done]) :: (b0_0, .cells (fl cK (List.reverse x0))) :: (hidR x0 ++ O))⟩) (fun J86 hF => ?_) ?_
                · refine CR (Ml rfl (S_lenL rfl ty_sl_27 (Mi rfl (Sn (WP_block ?_)))))
                  refine C_loop (σ := Int) hF (fun (a87 : Int) s' => OK h ((i76, .cells [.str x75.1.URI, .str x75.1.Local]) :: (g38, .cells [.sl 2 (List.map c_T_scope_bind a39) 0]) :: (q0, .cells [.msl 8 b0_0 0 (List.length p0.open_), .I p0.nodes, .bool p0.done]) :: (b0_0, .cells (fl cK (List.reverse x0))) :: (hidR x0 ++ O)) ∧ WS s' ⟨mkSl 105 [(0, .ptr q0 0), (3, .iptr (cTK p1)), (5, .ptr g38 0), (7, .ptr i76 0), (8, .sl 3 (List.map c_T_api_Attr x78.1) 0), (66, .sl 3 (List.map c_T_api_Attr x78.1) 0), (67, .I (x78.1.length : Int)), (68, .I a87)], Hp h ((i76, .cells [.str x75.1.URI, .str x75.1.Local]) :: (g38, .cells [.sl 2 (List.map c_T_scope_bind a39) 0]) :: (q0, .cells [.msl 8 b0_0 0 (List.length p0.open_), .I p0.nodes, .bool p0.done]) :: (b0_0, .cells (fl cK (List.reverse x0))) :: (hidR x0 ++ O))⟩) ?_ ?_
                  · exact ⟨ok, WS.mk' (.k (.k (.k (.k (.k (.k (.k (.k .nil)))))))) ok (.refl _)⟩
                  · rintro G88 hG89 rec90 a87 s' ih91 hF ⟨ok, hws⟩
                    refine WP_ws hws ?_
                    clear hws s'
                    rw [F_parse_reader_begin_l0] at hF
                    refine CR (S_bin rfl rfl (ev_lss ..) (Sn (C_seq ?_)))
                    refine C_if (b := (decide (a87 < (x78.1.length : Int)))) rfl hF (fun hb92 hF => ?_) (fun hb92 hF => ?_)
                    · refine WP_skip (C_seq (WP_block (C_seq (C_reg (mdl [(10, 1)]) (S_ix rfl rfl ty_sl_27 ty_sz_110 hF (fun x93 _ hF => S_ldQ rfl (p_agg (vs := c_T_api_Attr x93) ty_ag_110 ty_sz_110 rfl rfl) (S_all1 ok rfl ty_zc_110 ?_)))))))
                      intro i94 hi94 ok
                      refine S_st (j := 0) (cs' := [.str x93.Name.URI, .str x93.Name.Local, .str x93.Value]) ok rfl rfl rfl hi94 rfl ty_sz_110 rfl rfl (fun ok => Sn (CR (Ml rfl (S_lenL rfl ty_sl_27 (S_bin rfl rfl (ev_gtr ..) (Mb rfl ?_))))))
                      refine S_two (b := (decide ((64 : Int) < (x78.1.length : Int)))) 5 80 (.bool ((decide ((64 : Int) < (x78.1.length : Int))) || (decide ((8192 : Int) < (x93.Value.length : Int))))) (fun hb95 => ?_) (fun hb95 => ?_) ?_
                      · refine So rfl rfl hb95 (So rfl rfl hb95 (So rfl rfl hb95 (So rfl rfl hb95 (S_pickT (v := .bool _) rfl hb95 rfl (Sn (.hd (or_t hb95) ?_))))))
                        repeat first | with_reducible exact .refl _ | refine .add ?_ rfl | exact .refl _
                      · refine Sx rfl rfl hb95 (S_faP rfl ty_fd_110_1 ty_sz_9 (Sn (Sx rfl rfl hb95 (S_ldP (j := 0) ok rfl rfl rfl hi94 (p_one (v := .str x93.Value) ty_ag_9 ty_sz_9 rfl) (Sn (Sx rfl rfl hb95 (S_lenS rfl ty_st_9 (Sn (Sx rfl rfl hb95 (S_bin rfl rfl (ev_gtr ..) (Sn (S_pickF (v := .bool _) rfl hb95 rfl (Sn (.hd (or_f hb95) ?_))))))))))))))
                        repeat first | with_reducible exact .refl _ | refine .add ?_ rfl | exact .refl _
                      refine Sn ?_
                      refine C_if (b := ((decide ((64 : Int) < (x78.1.length : Int))) || (decide ((8192 : Int) < (x93.Value.length : Int))))) rfl hF (fun hb96 hF => ?_) (fun hb96 hF => ?_)
                      · refine CR (Ai rfl (Sn (WP_ret ?_)))
                        replace hF := hG89 _ (F_some hF)
                        with_reducible repeat first | apply Exit.sr | apply Exit.br | apply Exit.jr
                        have hwo : WO ((i94, .cells [.str x93.Name.URI, .str x93.Name.Local, .str x93.Value]) :: (i76, .cells [.str x75.1.URI, .str x75.1.Local]) :: (g38, .cells [.sl 2 (List.map c_T_scope_bind a39) 0]) :: (q0, .cells [.msl 8 b0_0 0 (List.length p0.open_), .I p0.nodes, .bool p0.done]) :: (b0_0, .cells (fl cK (List.reverse x0))) :: (hidR x0 ++ O)) ((q0, .cells [.msl 8 b0_0 0 (List.length p0.open_), .I p0.nodes, .bool p0.done]) :: (b0_0, .cells (fl cK (List.reverse x0))) :: (hidR x0 ++ O)) := (.drop (.drop (.drop (.keep (.keep (.refl (hidR x0 ++ O)))))))
                        refine C_ret (fn := Tryz.f51) rfl (.tmp (v := .I 5) rfl .nil) ?_
                        exact ⟨_, _, (.refl _), (hwo.spec ok).2.2, _, F_some hF, rfl, b0_0, x0, hb0_0, hx0, zk0, (hwo.spec ok).1, rfl⟩
                      · refine WP_skip (C_reg (mdl []) (S_bin rfl rfl (ev_add ..) (Mi rfl (Sn (ih91 (IntKind.wrap .i64 (a87 + (1 : Int))) _ hF ?_)))))
                        have hwo : WO ((i94, .cells [.str x93.Name.URI, .str x93.Name.Local, .str x93.Value]) :: (i76, .cells [.str x75.1.URI, .str x75.1.Local]) :: (g38, .cells [.sl 2 (List.map c_T_scope_bind a39) 0]) :: (q0, .cells [.msl 8 b0_0 0 (List.length p0.open_), .I p0.nodes, .bool p0.done]) :: (b0_0, .cells (fl cK (List.reverse x0))) :: (hidR x0 ++ O)) ((i76, .cells [.str x75.1.URI, .str x75.1.Local]) :: (g38, .cells [.sl 2 (List.map c_T_scope_bind a39) 0]) :: (q0, .cells [.msl 8 b0_0 0 (List.length p0.open_), .I p0.nodes, .bool p0.done]) :: (b0_0, .cells (fl cK (List.reverse x0))) :: (hidR x0 ++ O)) := (.drop (.keep (.keep (.keep (.keep (.refl (hidR x0 ++ O)))))))
                        exact ⟨(hwo.spec ok).1, WS.mk' (.k (.k (.k (.k (.k (.k (.k (.k .nil)))))))) ok hwo⟩
                    · refine WP_exit ?_
                      simp only [Exit.sel, Exit.blk, Exit.jmp, if_true, if_false, reduceIte, Nat.reduceEqDiff, Nat.succ_ne_zero, Nat.zero_ne_one, Nat.one_ne_zero]
                      replace hF := hG89 _ (F_some hF)
                      exact ⟨(), hF, ok, WS.mk' (.k (.k (.k (.k (.k .nil))))) ok (.refl _)⟩
                · rintro ⟨⟩ s' hF ⟨ok, hws⟩
                  refine WP_ws hws ?_
                  clear hws s'
                  refine C_seq ?_
                  refine C_drw (mdl [(95, 1), (91, 3)]) (by kernel_rfl) (by kernel_rfl) ?_
                  refine Mp rfl (Mp rfl (S_nilc (v := .ptr _ _) rfl rfl (S_faP rfl ty_fd_63_0 ty_sz_61 (S_ldP (j := 2) ok rfl rfl rfl hq0 (p_one (v := .msl 8 b0_0 0 (List.length p0.open_)) ty_ag_61 ty_sz_61 rfl) (S_ldP (j := 0) ok rfl rfl rfl hi76 (p_agg (vs := c_T_api_Name x75.1) ty_ag_26 ty_sz_26 rfl rfl) (Ml rfl (S_bld (v := .agg [.I 2, .str x75.1.URI, .str x75.1.Local, .sl 3 (List.map c_T_api_Attr x78.1) 0, .snil, .str nB]) (b_st ty_zc_30 ty_pl_30 rfl) (S_faQ rfl ty_fd_66_2 ty_sz_9 rfl (S_ldQ rfl (p_one ty_ag_9 ty_sz_9 rfl) (S_ldP (j := 1) ok rfl rfl rfl hg38 (p_agg (vs := c_T_scope_Scope (⟨a39⟩ : T_scope_Scope)) ty_ag_57 ty_sz_57 rfl rfl) (S_bld (v := .agg [.I 2, .str x75.1.URI, .str x75.1.Local, .sl 3 (List.map c_T_api_Attr x78.1) 0, .snil, .str nB, .str p1.Name, .sl 2 (List.map c_T_scope_bind (⟨a39⟩ : T_scope_Scope).binds) 0]) (b_st ty_zc_60 ty_pl_60 rfl) (S_lit0 (es := [[.I 2, .str x75.1.URI, .str x75.1.Local, .sl 3 (List.map c_T_api_Attr x78.1) 0, .snil, .str nB, .str p1.Name, .sl 2 (List.map c_T_scope_bind (⟨a39⟩ : T_scope_Scope).binds) 0]]) rfl ty_el_61 rfl rfl rfl (S_pushK (c := cK) (X := x0) (e := p0.open_) (a := (⟨(⟨(2 : Int), x75.1, x78.1, ([] : List T_api_Node), nB⟩ : T_api_Node), p1.Name, (⟨a39⟩ : T_scope_Scope)⟩ : T_parse_open)) (j := 3) ok rfl hx0 rfl rfl rfl cK_len rfl hb0_0 ty_el_61 ty_ni_61 hF ?_)))))))))))))
                  intro u97 hu97 ok hF
                  have hx98 : List.map Prod.fst (((⟨(⟨(2 : Int), x75.1, x78.1, ([] : List T_api_Node), nB⟩ : T_api_Node), p1.Name, (⟨a39⟩ : T_scope_Scope)⟩ : T_parse_open), 0) :: x0) = ((⟨(⟨(2 : Int), x75.1, x78.1, ([] : List T_api_Node), nB⟩ : T_api_Node), p1.Name, (⟨a39⟩ : T_scope_Scope)⟩ : T_parse_open) :: p0.open_) := by rw [List.map_cons, hx0]
                  have zs99 : zkR (((⟨(⟨(2 : Int), x75.1, x78.1, ([] : List T_api_Node), nB⟩ : T_api_Node), p1.Name, (⟨a39⟩ : T_scope_Scope)⟩ : T_parse_open), 0) :: x0) := zkR_cons.2 ⟨fun _ => rfl, zk0⟩
                  obtain ⟨hpe, ok⟩ := Hp_insM [(i76, .cells [.str x75.1.URI, .str x75.1.Local]), (g38, .cells [.sl 2 (List.map c_T_scope_bind a39) 0]), (q0, .cells [.msl 8 b0_0 0 (List.length p0.open_), .I p0.nodes, .bool p0.done]), (u97, .cells (fl cK (List.reverse (((⟨(⟨(2 : Int), x75.1, x78.1, ([] : List T_api_Node), nB⟩ : T_api_Node), p1.Name, (⟨a39⟩ : T_scope_Scope)⟩ : T_parse_open), 0) :: x0))))] (L := (hidR x0 ++ O)) ok
                  refine S_hpe hpe ?_
                  clear hpe
                  refine S_nilc (v := .ptr _ _) rfl rfl (S_faP rfl ty_fd_63_0 ty_sz_61 (S_st (j := 2) (cs' := [.msl 8 u97 0 (List.length ((⟨(⟨(2 : Int), x75.1, x78.1, ([] : List T_api_Node), nB⟩ : T_api_Node), p1.Name, (⟨a39⟩ : T_scope_Scope)⟩ : T_parse_open) :: p0.open_)), .I p0.nodes, .bool p0.done]) ok rfl rfl rfl hq0 rfl ty_sz_61 rfl rfl (fun ok => Sn (CR (Mp rfl (S_nilc (v := .ptr _ _) rfl rfl (S_faP rfl ty_fd_63_1 ty_sz_3 (S_ldP (j := 2) ok rfl rfl rfl hq0 (p_one (v := .I p0.nodes) ty_ag_3 ty_sz_3 rfl) (S_bin rfl rfl (ev_add ..) (S_nilc (v := .ptr _ _) rfl rfl (S_faP rfl ty_fd_63_1 ty_sz_3 (S_st (j := 2) (cs' := [.msl 8 u97 0 (List.length ((⟨(⟨(2 : Int), x75.1, x78.1, ([] : List T_api_Node), nB⟩ : T_api_Node), p1.Name, (⟨a39⟩ : T_scope_Scope)⟩ : T_parse_open) :: p0.open_)), .I (IntKind.wrap .i64 (p0.nodes + (1 : Int))), .bool p0.done]) ok rfl rfl rfl hq0 rfl ty_sz_3 rfl rfl (fun ok => Sn (CR (Ai rfl (Sn (WP_ret ?_)))))))))))))))))
                  with_reducible repeat first | apply Exit.sr | apply Exit.br | apply Exit.jr
                  have hwo : WO ((i76, .cells [.str x75.1.URI, .str x75.1.Local]) :: (g38, .cells [.sl 2 (List.map c_T_scope_bind a39) 0]) :: (q0, .cells [.msl 8 u97 0 (List.length ((⟨(⟨(2 : Int), x75.1, x78.1, ([] : List T_api_Node), nB⟩ : T_api_Node), p1.Name, (⟨a39⟩ : T_scope_Scope)⟩ : T_parse_open) :: p0.open_)), .I (IntKind.wrap .i64 (p0.nodes + (1 : Int))), .bool p0.done]) :: (u97, .cells (fl cK (List.reverse (((⟨(⟨(2 : Int), x75.1, x78.1, ([] : List T_api_Node), nB⟩ : T_api_Node), p1.Name, (⟨a39⟩ : T_scope_Scope)⟩ : T_parse_open), 0) :: x0)))) :: (hidR (((⟨(⟨(2 : Int), x75.1, x78.1, ([] : List T_api_Node), nB⟩ : T_api_Node), p1.Name, (⟨a39⟩ : T_scope_Scope)⟩ : T_parse_open), 0) :: x0) ++ O)) ((q0, .cells [.msl 8 u97 0 (List.length ((⟨(⟨(2 : Int), x75.1, x78.1, ([] : List T_api_Node), nB⟩ : T_api_Node), p1.Name, (⟨a39⟩ : T_scope_Scope)⟩ : T_parse_open) :: p0.open_)), .I (IntKind.wrap .i64 (p0.nodes + (1 : Int))), .bool p0.done]) :: (u97, .cells (fl cK (List.reverse (((⟨(⟨(2 : Int), x75.1, x78.1, ([] : List T_api_Node), nB⟩ : T_api_Node), p1.Name, (⟨a39⟩ : T_scope_Scope)⟩ : T_parse_open), 0) :: x0)))) :: (hidR (((⟨(⟨(2 : Int), x75.1, x78.1, ([] : List T_api_Node), nB⟩ : T_api_Node), p1.Name, (⟨a39⟩ : T_scope_Scope)⟩ : T_parse_open), 0) :: x0) ++ O)) := (.drop (.drop (.keep (.keep (.refl (hidR (((⟨(⟨(2 : Int), x75.1, x78.1, ([] : List T_api_Node), nB⟩ : T_api_Node), p1.Name, (⟨a39⟩ : T_scope_Scope)⟩ : T_parse_open), 0) :: x0) ++ O))))))
                  refine C_ret (fn := Tryz.f51) rfl (.tmp (v := .I 0) rfl .nil) ?_
                  exact ⟨_, _, (.refl _), (hwo.spec ok).2.2, _, F_some hF, rfl, u97, (((⟨(⟨(2 : Int), x75.1, x78.1, ([] : List T_api_Node), nB⟩ : T_api_Node), p1.Name, (⟨a39⟩ : T_scope_Scope)⟩ : T_parse_open), 0) :: x0), hu97, hx98, zs99, (hwo.spec ok).1, rfl⟩
theorem F_parse_reader_begin_ok {β : Type} {f0 : Int × T_parse_reader → Option β} {G : β → Prop} {R : D → Heap → Prop} {p0 : T_parse_reader} {p1 : TK} {q0 : Nat} {b0_0 : Nat} {x0 : List (T_parse_open × Nat)} (h : Heap) (O : List (Nat × AObj)) (hq0 : q0 ≠ 0) (hb0_0 : b0_0 ≠ 0) (hx0 : List.map Prod.fst x0 = p0.open_) (zk0 : zkR x0) (ok : OK h ((q0, .cells [.msl 8 b0_0 0 (List.length p0.open_), .I p0.nodes, .bool p0.done]) :: (b0_0, .cells (fl cK (List.reverse x0))) :: (hidR x0 ++ O))) (hF : OptP ((F_parse_reader_begin p0 p1).bind f0) G) (hk : ∀ r b0_0' x0', F_parse_reader_begin p0 p1 = some r → b0_0' ≠ 0 → List.map Prod.fst x0' = r.2.open_ → zkR x0' → OK h ((q0, .cells [.msl 8 b0_0' 0 (List.length r.2.open_), .I r.2.nodes, .bool r.2.done]) :: (b0_0', .cells (fl cK (List.reverse x0'))) :: (hidR x0' ++ O)) → OptP (f0 r) G → R (.I r.1) (Hp h ((q0, .cells [.msl 8 b0_0' 0 (List.length r.2.open_), .I r.2.nodes, .bool r.2.done]) :: (b0_0', .cells (fl cK (List.reverse x0'))) :: (hidR x0' ++ O)))) : CallsA Tryz.prog 51 [.ptr q0 0, .agg (cTK p1)] (Hp h ((q0, .cells [.msl 8 b0_0 0 (List.length p0.open_), .I p0.nodes, .bool p0.done]) :: (b0_0, .cells (fl cK (List.reverse x0))) :: (hidR x0 ++ O))) R := by
  obtain ⟨r0, hr, hF⟩ := F_bind hF
  refine (F_parse_reader_begin_w (G := fun r => r = r0) p0 p1 q0 b0_0 x0 h O hq0 hb0_0 hx0 zk0 ok ⟨r0, hr, rfl⟩).mono ?_
  rintro _ _ ⟨r, rfl, rfl, b0_0', x0', yy0, yy1, yy2, ok', rfl⟩
  exact hk _ _ _ hr yy0 yy1 yy2 ok' hF
end Go.Proofs.YtilhbalhkljanaaGreatDoor
