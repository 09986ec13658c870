/- The walks. No condition. -/
import Derived.Test.YtilhbalhkljanaaGreatDoorWs
import Derived.Test.YtilhbalhkljanaaGreatDoorWk3
set_option linter.unusedVariables false
set_option linter.unusedSimpArgs false
set_option maxRecDepth 20000
set_option maxHeartbeats 8000000
namespace Go.Proofs.YtilhbalhkljanaaGreatDoor
theorem F_lecternlaw06_ParseTexts_w (p0 : LB) (p1 : Int) {G : Bool → Prop} (h : Heap) (hF : OptP (F_lecternlaw06_ParseTexts p0 p1) G) : CallsA Tryz.prog 4 [.str p0, .I p1] h fun d h' => ∃ r, G r ∧ d = .bool r := by
  refine CallsA.ret (C_body Tryz.func4 rfl en_4 Tryz.ntmps4 rfl (fun ok => ?_))
  rw [F_lecternlaw06_ParseTexts] at hF
  refine CR (Ab rfl (Sn (C_seq (CR (S_call (F_lecternlaw06_awake_ok _ hF fun x1 _ hF => (S_un rfl (ev_not _) (Sn ?_))) (.nil))))))
  refine C_if (b := (!x1)) rfl hF (fun hb2 hF => ?_) (fun hb2 hF => ?_)
  · refine CR (Ab rfl (Sn (WP_ret ?_)))
    with_reducible repeat first | apply Exit.sr | apply Exit.br | apply Exit.jr
    refine C_ret (fn := Tryz.f4) rfl (.tmp (v := .bool false) rfl .nil) ?_
    exact ⟨_, _, (.refl _), WH.refl _, _, F_some hF, rfl⟩
  · refine WP_skip (CR (Ms rfl (S_byt0 rfl rfl ty_sl_22 ty_st_9 ty_ki_5 (S_call (F_lecternref01_Fault_ok _ hF fun x3 _ hF => (S_m (v := .tup _) rfl (S_ext rfl rfl (S_ext rfl rfl (Ai rfl (Ai rfl (Sn (C_seq (CR (Mi rfl (S_bin rfl rfl (ev_neq ..) (Mb rfl ?_)))))))))))) (.refl _)))))
    refine S_two (b := (x3.2 != (0 : Int))) 4 36 (.bool ((x3.2 != (0 : Int)) || (decide ((2000 : Int) < (p0.length : Int))))) (fun hb4 => ?_) (fun hb4 => ?_) ?_
    · refine So rfl rfl hb4 (So rfl rfl hb4 (So rfl rfl hb4 (S_pickT (v := .bool _) rfl hb4 rfl (Sn (.hd (or_t hb4) ?_)))))
      repeat first | with_reducible exact .refl _ | refine .add ?_ rfl
    · refine Sx rfl rfl hb4 (Ms rfl (Sn (Sx rfl rfl hb4 (S_lenS rfl ty_st_9 (Sn (Sx rfl rfl hb4 (S_bin rfl rfl (ev_gtr ..) (Sn (S_pickF (v := .bool _) rfl hb4 rfl (Sn (.hd (or_f hb4) ?_)))))))))))
      repeat first | with_reducible exact .refl _ | refine .add ?_ rfl
    refine Mb rfl ?_
    refine S_two (b := ((x3.2 != (0 : Int)) || (decide ((2000 : Int) < (p0.length : Int))))) 3 40 (.bool (((x3.2 != (0 : Int)) || (decide ((2000 : Int) < (p0.length : Int)))) || (p0 == nB))) (fun hb5 => ?_) (fun hb5 => ?_) ?_
    · refine So rfl rfl hb5 (So rfl rfl hb5 (S_pickT (v := .bool _) rfl hb5 rfl (Sn (.hd (or_t hb5) ?_))))
      repeat first | with_reducible exact .refl _ | refine .add ?_ rfl
    · refine Sx rfl rfl hb5 (Ms rfl (Sn (Sx rfl rfl hb5 (S_bin rfl rfl e_seql (Sn (S_pickF (v := .bool _) rfl hb5 rfl (Sn (.hd (or_f hb5) ?_))))))))
      repeat first | with_reducible exact .refl _ | refine .add ?_ rfl
    refine Sn ?_
    refine C_if (b := (((x3.2 != (0 : Int)) || (decide ((2000 : Int) < (p0.length : Int)))) || (p0 == nB))) rfl hF (fun hb6 hF => ?_) (fun hb6 hF => ?_)
    · refine CR (Ab rfl (Sn (WP_ret ?_)))
      with_reducible repeat first | apply Exit.sr | apply Exit.br | apply Exit.jr
      refine C_ret (fn := Tryz.f4) rfl (.tmp (v := .bool true) rfl .nil) ?_
      exact ⟨_, _, (.refl _), WH.refl _, _, F_some hF, rfl⟩
    · refine WP_skip (CR (Ai rfl (Sn ?_)))
      refine C_join hF (fun (a11 : Int) s' => OK h [] ∧ WS s' ⟨mkSl 182 [(0, .str p0), (7, .I a11)], Hp h []⟩) (fun J12 hF => ?_) ?_
      · refine CR (Ms rfl (S_rng ok rfl ty_st_9 ?_))
        intro i13 hi13 ok
        refine Sn (WP_block ?_)
        refine C_loop (σ := Int × Nat) hF (fun (v : Int × Nat) s' => match v with | (a14, a15) => OK h [(i13, .iter p0 a15)] ∧ WS s' ⟨mkSl 182 [(0, .str p0), (1, .I p1), (7, .I a14), (42, .ptr i13 0)], Hp h [(i13, .iter p0 a15)]⟩) ?_ ?_
        · exact ⟨ok, WS.mk' (.k (.k (.k (.k .nil)))) ok (.refl _)⟩
        · rintro G16 hG17 rec18 ⟨a14, a15⟩ s' ih19 hF ⟨ok, hws⟩
          refine WP_ws hws ?_
          clear hws s'
          rw [F_lecternlaw06_ParseTexts_l0] at hF
          refine C_seq (C_reg (mdl []) ?_)
          refine S_nxt (j := 0) ok rfl rfl hi13 hF (fun _ ok hF => ?_) (fun hF => ?_)
          · refine S_ext rfl rfl (Sn (C_seq (C_tt rfl rfl (WP_skip (WP_block (CR (S_ext rfl rfl (Ai rfl (Sn (CR (Mi rfl (Mi rfl (S_bin rfl rfl (ev_leq ..) (Sn ?_))))))))))))))
            refine C_if (b := (decide (((a15 : Nat) : Int) ≤ p1))) rfl hF (fun hb20 hF => ?_) (fun hb20 hF => ?_)
            · refine C_reg (mdl []) (Mi rfl (Ai rfl (Sn (ih19 (((a15 : Nat) : Int), (a15 + wdS p0 a15)) _ hF ?_))))
              exact ⟨ok, WS.mk' (.k (.k (.k (.k .nil)))) ok (.refl _)⟩
            · refine WP_skip (ih19 (a14, (a15 + wdS p0 a15)) _ hF ?_)
              exact ⟨ok, WS.mk' (.k (.k (.k (.k .nil)))) ok (.refl _)⟩
          · refine S_ext rfl rfl (Sn (C_seq (C_ff rfl rfl (WP_exit ?_))))
            simp only [Exit.sel, Exit.blk, Exit.jmp, if_true, if_false, reduceIte, Nat.reduceEqDiff, Nat.succ_ne_zero, Nat.zero_ne_one, Nat.one_ne_zero]
            replace hF := hG17 _ (F_some hF)
            have hwo : WO [(i13, .iter p0 a15)] [] := (.drop .nil)
            exact ⟨a14, hF, (hwo.spec ok).1, WS.mk' (.k (.k .nil)) ok hwo⟩
      · rintro a11 s' hF ⟨ok, hws⟩
        refine WP_ws hws ?_
        clear hws s'
        refine CR (S_a (v := .str nB) rfl (Sn ?_))
        refine C_join hF (fun (a33 : LB) s' => OK h [] ∧ WS s' ⟨mkSl 182 [(0, .str p0), (7, .I a11), (9, .str a33)], Hp h []⟩) (fun J34 hF => ?_) ?_
        · refine CR (Ms rfl (S_rng ok rfl ty_st_9 ?_))
          intro i35 hi35 ok
          refine Sn (WP_block ?_)
          refine C_loop (σ := LB × Nat) hF (fun (v : LB × Nat) s' => match v with | (a36, a37) => OK h [(i35, .iter p0 a37)] ∧ WS s' ⟨mkSl 182 [(0, .str p0), (7, .I a11), (9, .str a36), (51, .ptr i35 0)], Hp h [(i35, .iter p0 a37)]⟩) ?_ ?_
          · exact ⟨ok, WS.mk' (.k (.k (.k (.k .nil)))) ok (.refl _)⟩
          · rintro G38 hG39 rec40 ⟨a36, a37⟩ s' ih41 hF ⟨ok, hws⟩
            refine WP_ws hws ?_
            clear hws s'
            rw [F_lecternlaw06_ParseTexts_l1] at hF
            refine C_seq (C_reg (mdl []) ?_)
            refine S_nxt (j := 0) ok rfl rfl hi35 hF (fun _ ok hF => ?_) (fun hF => ?_)
            · refine S_ext rfl rfl (Sn (C_seq (C_tt rfl rfl (WP_skip (WP_block (CR (S_ext rfl rfl (Ai rfl (Sn (CR (S_a (v := .str nB) rfl (Sn ?_))))))))))))
              refine C_join hF (fun (a46 : LB) s' => OK h [(i35, .iter p0 (a37 + wdS p0 a37))] ∧ WS s' ⟨mkSl 182 [(0, .str p0), (7, .I a11), (9, .str a36), (12, .str a46), (51, .ptr i35 0)], Hp h [(i35, .iter p0 (a37 + wdS p0 a37))]⟩) (fun J47 hF => ?_) ?_
              · refine CR (Mi rfl (S_conv rfl (e_ci ty_ki_3 ty_un_21) (Ai rfl (Sn (WP_block ?_)))))
                refine C_loop (σ := LB × Int) hF (fun (v : LB × Int) s' => match v with | (a48, a49) => OK h [(i35, .iter p0 (a37 + wdS p0 a37))] ∧ WS s' ⟨mkSl 182 [(0, .str p0), (7, .I a11), (9, .str a36), (12, .str a48), (13, .I a49), (51, .ptr i35 0)], Hp h [(i35, .iter p0 (a37 + wdS p0 a37))]⟩) ?_ ?_
                · exact ⟨ok, WS.mk' (.k (.k (.k (.k (.k (.k .nil)))))) ok (.refl _)⟩
                · rintro G50 hG51 rec52 ⟨a48, a49⟩ s' ih53 hF ⟨ok, hws⟩
                  refine WP_ws hws ?_
                  clear hws s'
                  rw [F_lecternlaw06_ParseTexts_l2] at hF
                  refine C_seq (CR (Mi rfl (S_bin rfl rfl (ev_gtr ..) (Sn ?_))))
                  refine C_if (b := (decide ((0 : Int) < a49))) rfl hF (fun hb54 hF => ?_) (fun hb54 hF => ?_)
                  · refine WP_skip (C_seq (WP_block (C_reg (mdl []) (Mi rfl (S_bin rfl rfl (e_rem rfl) (S_bin rfl rfl (ev_add ..) (S_conv rfl (e_ci ty_ki_5 ty_un_3) ?_)))))))
                    obtain ⟨b55, hb55, hF⟩ := F_bind hF
                    replace hb55 := u8_spec hb55
                    refine S_lit0 (es := List.map c_u8 [b55]) rfl ty_el_22 rfl rfl (by simp only [List.map_cons, List.map_nil, c_u8, hb55]; rfl) ?_
                    refine S_conv rfl (e_cbs ty_sl_22 ty_ki_5 ty_st_9) (Ms rfl (S_cat rfl rfl hF (fun hF => S_a (v := .str _) rfl (Sn (C_reg (mdl []) (Mi rfl (S_bin rfl rfl (e_quo rfl) (Ai rfl (Sn (ih53 (([b55] ++ a48), (IntKind.wrap .i64 (Int.tdiv a49 (10 : Int)))) _ hF ?_))))))))))
                    exact ⟨ok, WS.mk' (.k (.k (.k (.k (.k (.k .nil)))))) ok (.refl _)⟩
                  · refine WP_exit ?_
                    simp only [Exit.sel, Exit.blk, Exit.jmp, if_true, if_false, reduceIte, Nat.reduceEqDiff, Nat.succ_ne_zero, Nat.zero_ne_one, Nat.one_ne_zero]
                    replace hF := hG51 _ (F_some hF)
                    exact ⟨a48, hF, ok, WS.mk' (.k (.k (.k (.k (.k .nil))))) ok (.refl _)⟩
              · rintro a46 s' hF ⟨ok, hws⟩
                refine WP_ws hws ?_
                clear hws s'
                refine C_reg (mdl []) (Ms rfl (S_cat rfl rfl hF (fun hF => Ms rfl (S_cat rfl rfl hF (fun hF => S_cat rfl rfl hF (fun hF => S_a (v := .str _) rfl (Sn (ih41 ((((a36 ++ ([38, 35] : LB)) ++ a46) ++ ([59] : LB)), (a37 + wdS p0 a37)) _ hF ?_))))))))
                exact ⟨ok, WS.mk' (.k (.k (.k (.k .nil)))) ok (.refl _)⟩
            · refine S_ext rfl rfl (Sn (C_seq (C_ff rfl rfl (WP_exit ?_))))
              simp only [Exit.sel, Exit.blk, Exit.jmp, if_true, if_false, reduceIte, Nat.reduceEqDiff, Nat.succ_ne_zero, Nat.zero_ne_one, Nat.one_ne_zero]
              replace hF := hG39 _ (F_some hF)
              have hwo : WO [(i35, .iter p0 a37)] [] := (.drop .nil)
              exact ⟨a36, hF, (hwo.spec ok).1, WS.mk' (.k (.k (.k .nil))) ok hwo⟩
        · rintro a33 s' hF ⟨ok, hws⟩
          refine WP_ws hws ?_
          clear hws s'
          refine C_seq ?_
          refine C_plan (mdl [(93, 2)]) [0, 4, 5, 6, 10, 11, 12, 16, 17, 18, 1, 2, 3, 7, 8, 9, 13, 14, 15, 19, 20] [_, _, _, _, _, _, _, _, _, _, _, _, _, _, _, _, _, _, _, _, _] (by kernel_rfl) rfl rfl (by kernel_rfl) ?_
          refine Ms rfl (Ms rfl (Mi rfl (S_slS rfl ty_st_9 bd_no (bd_at rfl) hF (fun x56 _ hF => Ms rfl (Mi rfl (S_slS rfl ty_st_9 (bd_at rfl) bd_no hF (fun x57 _ hF => Ms rfl (S_cat rfl rfl hF (fun hF => S_cat rfl rfl hF (fun hF => S_call (F_lecternref02_Text_ok _ hF fun x58 _ hF => (S_cat rfl rfl hF (fun hF => S_cat rfl rfl hF (fun hF => S_call (F_lecternref02_Text_ok _ hF fun x59 _ hF => (S_cat rfl rfl hF (fun hF => S_cat rfl rfl hF (fun hF => S_call (F_lecternref02_Text_ok _ hF fun x60 _ hF => (S_cat rfl rfl hF (fun hF => S_cat rfl rfl hF (fun hF => ?_)))) (.refl _))))) (.refl _))))) (.refl _)))))))))))
          refine S_lit2 (cs := [.str ((([60, 97, 62] : LB) ++ x58) ++ ([60, 47, 97, 62] : LB)), .str ((((([60, 97, 62] : LB) ++ x59) ++ ([60, 33, 91, 67, 68, 65, 84, 65, 91, 93, 93, 62] : LB)) ++ x60) ++ ([60, 47, 97, 62] : LB)), .str ((([60, 97, 62] : LB) ++ a33) ++ ([60, 47, 97, 62] : LB))]) (es := (List.map c_str [((([60, 97, 62] : LB) ++ x58) ++ ([60, 47, 97, 62] : LB)), ((((([60, 97, 62] : LB) ++ x59) ++ ([60, 33, 91, 67, 68, 65, 84, 65, 91, 93, 93, 62] : LB)) ++ x60) ++ ([60, 47, 97, 62] : LB)), ((([60, 97, 62] : LB) ++ a33) ++ ([60, 47, 97, 62] : LB))])) ok rfl ty_el_42 rfl (by kernel_rfl) (by kernel_rfl) ?_
          intro r61 hr61 ok
          refine S_a (v := .sl _ _ _) rfl (Sn (CR (Ab rfl (Sn ?_))))
          refine C_join hF (fun (a73 : Bool) s' => OK h [(r61, .room)] ∧ WS s' ⟨mkSl 182 [(0, .str p0), (7, .I a11), (14, .sl 1 (List.map c_str [((([60, 97, 62] : LB) ++ x58) ++ ([60, 47, 97, 62] : LB)), ((((([60, 97, 62] : LB) ++ x59) ++ ([60, 33, 91, 67, 68, 65, 84, 65, 91, 93, 93, 62] : LB)) ++ x60) ++ ([60, 47, 97, 62] : LB)), ((([60, 97, 62] : LB) ++ a33) ++ ([60, 47, 97, 62] : LB))]) r61), (15, .bool a73)], Hp h [(r61, .room)]⟩) (fun J74 hF => ?_) ?_
          · refine CR (Ai rfl (Sn (WP_block ?_)))
            refine C_loop (σ := Bool × Int) hF (fun (v : Bool × Int) s' => match v with | (a75, a76) => OK h [(r61, .room)] ∧ WS s' ⟨mkSl 182 [(0, .str p0), (7, .I a11), (14, .sl 1 (List.map c_str [((([60, 97, 62] : LB) ++ x58) ++ ([60, 47, 97, 62] : LB)), ((((([60, 97, 62] : LB) ++ x59) ++ ([60, 33, 91, 67, 68, 65, 84, 65, 91, 93, 93, 62] : LB)) ++ x60) ++ ([60, 47, 97, 62] : LB)), ((([60, 97, 62] : LB) ++ a33) ++ ([60, 47, 97, 62] : LB))]) r61), (15, .bool a75), (16, .I a76)], Hp h [(r61, .room)]⟩) ?_ ?_
            · exact ⟨ok, WS.mk' (.k (.k (.k (.k (.k .nil))))) ok (.refl _)⟩
            · rintro G77 hG78 rec79 ⟨a75, a76⟩ s' ih80 hF ⟨ok, hws⟩
              refine WP_ws hws ?_
              clear hws s'
              rw [F_lecternlaw06_ParseTexts_l3] at hF
              refine C_seq (CR (Mi rfl (Ms rfl (S_lenS rfl ty_st_9 (S_bin rfl rfl (ev_lss ..) (Sn ?_))))))
              refine C_if (b := (decide (a76 < (p0.length : Int)))) rfl hF (fun hb81 hF => ?_) (fun hb81 hF => ?_)
              · refine WP_skip (C_seq (WP_block (C_reg (mdl []) (Mb rfl (Mb rfl ?_)))))
                refine S_twoJ 5 106 hF (fun J83 hb82 hF => ?_) (fun J83 hb82 hF => ?_) (fun v84 hF => ?_)
                · refine Sx rfl rfl hb82 (Ms rfl (Sn (Sx rfl rfl hb82 (Mi rfl (Sn (Sx rfl rfl hb82 (S_ixS rfl rfl ty_st_9 hF (fun x85 _ hF => Sn (Sx rfl rfl hb82 (S_bin rfl rfl (ev_neq ..) (Sn (S_pickT (v := .bool _) rfl hb82 rfl (Sn ?_)))))))))))))
                  refine ⟨_, hF, .hd (.refl _) ?_⟩
                  repeat first | with_reducible exact .refl _ | refine .add ?_ rfl
                · refine So rfl rfl hb82 (So rfl rfl hb82 (So rfl rfl hb82 (So rfl rfl hb82 (S_pickF (v := .bool _) rfl hb82 rfl (Sn ?_)))))
                  refine ⟨_, hF, .hd (.refl _) ?_⟩
                  repeat first | with_reducible exact .refl _ | refine .add ?_ rfl
                · refine Mb rfl ?_
                  refine S_twoJ 5 112 hF (fun J87 hb86 hF => ?_) (fun J87 hb86 hF => ?_) (fun v88 hF => ?_)
                  · refine Sx rfl rfl hb86 (Ms rfl (Sn (Sx rfl rfl hb86 (Mi rfl (Sn (Sx rfl rfl hb86 (S_ixS rfl rfl ty_st_9 hF (fun x89 _ hF => Sn (Sx rfl rfl hb86 (S_bin rfl rfl (ev_neq ..) (Sn (S_pickT (v := .bool _) rfl hb86 rfl (Sn ?_)))))))))))))
                    refine ⟨_, hF, .hd (.refl _) ?_⟩
                    repeat first | with_reducible exact .refl _ | refine .add ?_ rfl
                  · refine So rfl rfl hb86 (So rfl rfl hb86 (So rfl rfl hb86 (So rfl rfl hb86 (S_pickF (v := .bool _) rfl hb86 rfl (Sn ?_)))))
                    refine ⟨_, hF, .hd (.refl _) ?_⟩
                    repeat first | with_reducible exact .refl _ | refine .add ?_ rfl
                  · refine Ab rfl (Sn (C_reg (mdl []) (Mi rfl (S_bin rfl rfl (ev_add ..) (Ai rfl (Sn (ih80 (v88, (IntKind.wrap .i64 (a76 + (1 : Int)))) _ hF ?_)))))))
                    exact ⟨ok, WS.mk' (.k (.k (.k (.k (.k .nil))))) ok (.refl _)⟩
              · refine WP_exit ?_
                simp only [Exit.sel, Exit.blk, Exit.jmp, if_true, if_false, reduceIte, Nat.reduceEqDiff, Nat.succ_ne_zero, Nat.zero_ne_one, Nat.one_ne_zero]
                replace hF := hG78 _ (F_some hF)
                exact ⟨a75, hF, ok, WS.mk' (.k (.k (.k (.k .nil)))) ok (.refl _)⟩
          · rintro a73 s' hF ⟨ok, hws⟩
            refine WP_ws hws ?_
            clear hws s'
            refine C_join hF (fun (a95 : (List LB)) s' => ∃ g96 : Nat, g96 ≠ 0 ∧ OK h [(g96, .room)] ∧ WS s' ⟨mkSl 182 [(0, .str p0), (14, .sl 1 (List.map c_str a95) g96)], Hp h [(g96, .room)]⟩) (fun J97 hF => ?_) ?_
            · refine CR (Mb rfl (Sn ?_))
              refine C_if (b := a73) rfl hF (fun hb98 hF => ?_) (fun hb98 hF => ?_)
              · refine C_plan (mdl [(127, 2)]) [0, 1, 2, 3, 7, 8, 9, 4, 5, 6, 10, 11, 12, 13, 14] [_, _, _, _, _, _, _, _, _, _, _, _, _, _, _] (by kernel_rfl) rfl rfl (by kernel_rfl) ?_
                refine Ml rfl (Ms rfl (Mi rfl (S_slS rfl ty_st_9 bd_no (bd_at rfl) hF (fun x99 _ hF => Ms rfl (Mi rfl (S_slS rfl ty_st_9 (bd_at rfl) bd_no hF (fun x100 _ hF => S_call (F_lecternref02_Text_ok _ hF fun x101 _ hF => (S_cat rfl rfl hF (fun hF => S_cat rfl rfl hF (fun hF => S_cat rfl rfl hF (fun hF => S_cat rfl rfl hF (fun hF => ?_)))))) (.refl _))))))))
                refine S_lit0 (cs := [.str ((((([60, 97, 62] : LB) ++ x101) ++ ([60, 33, 91, 67, 68, 65, 84, 65, 91] : LB)) ++ x100) ++ ([93, 93, 62, 60, 47, 97, 62] : LB))]) (es := (List.map c_str [((((([60, 97, 62] : LB) ++ x101) ++ ([60, 33, 91, 67, 68, 65, 84, 65, 91] : LB)) ++ x100) ++ ([93, 93, 62, 60, 47, 97, 62] : LB))])) rfl ty_el_42 rfl (by kernel_rfl) (by kernel_rfl) ?_
                refine S_app (j := 0) ok rfl rfl rfl rfl hr61 ty_el_42 ty_ni_42 hF ?_
                intro r102 hr102 ok hF
                refine S_a (v := .sl _ _ _) rfl (Sn ?_)
                exact ⟨([((([60, 97, 62] : LB) ++ x58) ++ ([60, 47, 97, 62] : LB)), ((((([60, 97, 62] : LB) ++ x59) ++ ([60, 33, 91, 67, 68, 65, 84, 65, 91, 93, 93, 62] : LB)) ++ x60) ++ ([60, 47, 97, 62] : LB)), ((([60, 97, 62] : LB) ++ a33) ++ ([60, 47, 97, 62] : LB))] ++ [((((([60, 97, 62] : LB) ++ x101) ++ ([60, 33, 91, 67, 68, 65, 84, 65, 91] : LB)) ++ x100) ++ ([93, 93, 62, 60, 47, 97, 62] : LB))]), hF, r102, hr102, ok, WS.mk' (.k (.k .nil)) ok (.refl _)⟩
              · refine WP_skip ?_
                exact ⟨[((([60, 97, 62] : LB) ++ x58) ++ ([60, 47, 97, 62] : LB)), ((((([60, 97, 62] : LB) ++ x59) ++ ([60, 33, 91, 67, 68, 65, 84, 65, 91, 93, 93, 62] : LB)) ++ x60) ++ ([60, 47, 97, 62] : LB)), ((([60, 97, 62] : LB) ++ a33) ++ ([60, 47, 97, 62] : LB))], hF, r61, hr61, ok, WS.mk' (.k (.k .nil)) ok (.refl _)⟩
            · rintro a95 s' hF ⟨g96, hg96, ok, hws⟩
              refine WP_ws hws ?_
              clear hws s'
              refine C_join hF (fun (_ : Unit) s' => OK h [] ∧ WS s' ⟨mkSl 182 [], Hp h []⟩) (fun J124 hF => ?_) ?_
              · refine CR (Ml rfl (S_one 128 (v := .sl 1 (List.map c_str a95) 0) (.zero _ _ _) (S_lenL rfl ty_sl_42 (Mi rfl (Sn (WP_block ?_))))))
                refine C_loop (σ := Int) hF (fun (a125 : Int) s' => OK h [] ∧ WS s' ⟨mkSl 182 [(0, .str p0), (128, .sl 1 (List.map c_str a95) 0), (129, .I (a95.length : Int)), (130, .I a125)], Hp h []⟩) ?_ ?_
                · have hwo : WO [(g96, .room)] [] := (.drop .nil)
                  exact ⟨(hwo.spec ok).1, WS.mk' (.k (.k (.k (.k .nil)))) ok hwo⟩
                · rintro G126 hG127 rec128 a125 s' ih129 hF ⟨ok, hws⟩
                  refine WP_ws hws ?_
                  clear hws s'
                  rw [F_lecternlaw06_ParseTexts_l4] at hF
                  refine CR (S_bin rfl rfl (ev_lss ..) (Sn (C_seq ?_)))
                  refine C_if (b := (decide (a125 < (a95.length : Int)))) rfl hF (fun hb130 hF => ?_) (fun hb130 hF => ?_)
                  · refine WP_skip (C_seq (WP_block (CR (S_ix rfl rfl ty_sl_42 ty_sz_9 hF (fun x131 _ hF => S_ldQ rfl (p_one ty_ag_9 ty_sz_9 rfl) (S_a (v := .str _) rfl (Sn (C_seq (C_reg (mdl [(19, 1)]) (Ms rfl (S_byt0 rfl rfl ty_sl_22 ty_st_9 ty_ki_5 (S_call (F_parse_Parse_ok _ hF fun x132 _ hF => (S_m (v := .tup _) rfl (S_ext rfl rfl (S_ext rfl rfl (S_ext rfl rfl (S_all1 ok rfl ty_zc_30 ?_)))))) (.refl _)))))))))))))
                    intro i133 hi133 ok
                    refine S_st (j := 0) (cs' := [.I x132.1.Kind, .str x132.1.Name.URI, .str x132.1.Name.Local, .sl 3 (List.map c_T_api_Attr x132.1.Attrs) 0, .sl 6 (List.map c_T_api_Node x132.1.Kids) 0, .str x132.1.Text]) ok rfl (congrArg D.agg (c_T_api_Node_eq x132.1)) rfl hi133 rfl ty_sz_30 rfl rfl (fun ok => Ai rfl (Ai rfl (Sn (CR (Mi rfl (S_bin rfl rfl (ev_neq ..) (Mb rfl ?_)))))))
                    refine S_two (b := (x132.2.2 != (0 : Int))) 5 148 (.bool ((x132.2.2 != (0 : Int)) || ((x132.1.Kids.length : Int) != (1 : Int)))) (fun hb134 => ?_) (fun hb134 => ?_) ?_
                    · refine So rfl rfl hb134 (So rfl rfl hb134 (So rfl rfl hb134 (So rfl rfl hb134 (S_pickT (v := .bool _) rfl hb134 rfl (Sn (.hd (or_t hb134) ?_))))))
                      repeat first | with_reducible exact .refl _ | refine .add ?_ rfl
                    · refine Sx rfl rfl hb134 (S_faP rfl ty_fd_30_3 ty_sz_28 (Sn (Sx rfl rfl hb134 (S_ldP (j := 0) ok rfl rfl rfl hi133 (p_one (v := .sl 6 (List.map c_T_api_Node x132.1.Kids) 0) ty_ag_28 ty_sz_28 rfl) (Sn (Sx rfl rfl hb134 (S_lenL rfl ty_sl_28 (Sn (Sx rfl rfl hb134 (S_bin rfl rfl (ev_neq ..) (Sn (S_pickF (v := .bool _) rfl hb134 rfl (Sn (.hd (or_f hb134) ?_))))))))))))))
                      repeat first | with_reducible exact .refl _ | refine .add ?_ rfl
                    refine Mb rfl ?_
                    refine S_twoJ 8 157 hF (fun J136 hb135 hF => ?_) (fun J136 hb135 hF => ?_) (fun v137 hF => ?_)
                    · refine So rfl rfl hb135 (So rfl rfl hb135 (So rfl rfl hb135 (So rfl rfl hb135 (So rfl rfl hb135 (So rfl rfl hb135 (So rfl rfl hb135 (S_pickT (v := .bool _) rfl hb135 rfl (Sn ?_))))))))
                      refine ⟨_, hF, .hd (.refl _) ?_⟩
                      repeat first | with_reducible exact .refl _ | refine .add ?_ rfl
                    · refine Sx rfl rfl hb135 (S_faP rfl ty_fd_30_3 ty_sz_28 (Sn (Sx rfl rfl hb135 (S_ldP (j := 0) ok rfl rfl rfl hi133 (p_one (v := .sl 6 (List.map c_T_api_Node x132.1.Kids) 0) ty_ag_28 ty_sz_28 rfl) (Sn (Sx rfl rfl hb135 (S_ix rfl rfl ty_sl_28 ty_sz_30 hF (fun x138 _ hF => Sn (Sx rfl rfl hb135 ?_)))))))))
                      refine S_faQ rfl ty_fd_30_3 ty_sz_28 (by rw [c_T_api_Node_eq]; rfl) ?_
                      refine Sn (Sx rfl rfl hb135 (S_ldQ rfl (p_one ty_ag_28 ty_sz_28 (congrArg (List.drop 4) (c_T_api_Node_eq x138))) (Sn (Sx rfl rfl hb135 (S_lenL rfl ty_sl_28 (Sn (Sx rfl rfl hb135 (S_bin rfl rfl (ev_neq ..) (Sn (S_pickF (v := .bool _) rfl hb135 rfl (Sn ?_)))))))))))
                      refine ⟨_, hF, .hd (.refl _) ?_⟩
                      repeat first | with_reducible exact .refl _ | refine .add ?_ rfl
                    · refine Mb rfl ?_
                      refine S_twoJ 10 168 hF (fun J140 hb139 hF => ?_) (fun J140 hb139 hF => ?_) (fun v141 hF => ?_)
                      · refine So rfl rfl hb139 (So rfl rfl hb139 (So rfl rfl hb139 (So rfl rfl hb139 (So rfl rfl hb139 (So rfl rfl hb139 (So rfl rfl hb139 (So rfl rfl hb139 (So rfl rfl hb139 (S_pickT (v := .bool _) rfl hb139 rfl (Sn ?_))))))))))
                        refine ⟨_, hF, .hd (.refl _) ?_⟩
                        repeat first | with_reducible exact .refl _ | refine .add ?_ rfl
                      · refine Sx rfl rfl hb139 (S_faP rfl ty_fd_30_3 ty_sz_28 (Sn (Sx rfl rfl hb139 (S_ldP (j := 0) ok rfl rfl rfl hi133 (p_one (v := .sl 6 (List.map c_T_api_Node x132.1.Kids) 0) ty_ag_28 ty_sz_28 rfl) (Sn (Sx rfl rfl hb139 (S_ix rfl rfl ty_sl_28 ty_sz_30 hF (fun x142 _ hF => Sn (Sx rfl rfl hb139 ?_)))))))))
                        refine S_faQ rfl ty_fd_30_3 ty_sz_28 (by rw [c_T_api_Node_eq]; rfl) ?_
                        refine Sn (Sx rfl rfl hb139 (S_ldQ rfl (p_one ty_ag_28 ty_sz_28 (congrArg (List.drop 4) (c_T_api_Node_eq x142))) (Sn (Sx rfl rfl hb139 (S_ix rfl rfl ty_sl_28 ty_sz_30 hF (fun x143 _ hF => Sn (Sx rfl rfl hb139 ?_)))))))
                        refine S_faQ rfl ty_fd_30_0 ty_sz_3 (by rw [c_T_api_Node_eq]; rfl) ?_
                        refine Sn (Sx rfl rfl hb139 (S_ldQ rfl (p_one ty_ag_3 ty_sz_3 (congrArg (List.drop 0) (c_T_api_Node_eq x143))) (Sn (Sx rfl rfl hb139 (S_bin rfl rfl (ev_neq ..) (Sn (S_pickF (v := .bool _) rfl hb139 rfl (Sn ?_))))))))
                        refine ⟨_, hF, .hd (.refl _) ?_⟩
                        repeat first | with_reducible exact .refl _ | refine .add ?_ rfl
                      · refine Mb rfl ?_
                        refine S_twoJ 11 180 hF (fun J145 hb144 hF => ?_) (fun J145 hb144 hF => ?_) (fun v146 hF => ?_)
                        · refine So rfl rfl hb144 (So rfl rfl hb144 (So rfl rfl hb144 (So rfl rfl hb144 (So rfl rfl hb144 (So rfl rfl hb144 (So rfl rfl hb144 (So rfl rfl hb144 (So rfl rfl hb144 (So rfl rfl hb144 (S_pickT (v := .bool _) rfl hb144 rfl (Sn ?_)))))))))))
                          refine ⟨_, hF, .hd (.refl _) ?_⟩
                          repeat first | with_reducible exact .refl _ | refine .add ?_ rfl
                        · refine Sx rfl rfl hb144 (S_faP rfl ty_fd_30_3 ty_sz_28 (Sn (Sx rfl rfl hb144 (S_ldP (j := 0) ok rfl rfl rfl hi133 (p_one (v := .sl 6 (List.map c_T_api_Node x132.1.Kids) 0) ty_ag_28 ty_sz_28 rfl) (Sn (Sx rfl rfl hb144 (S_ix rfl rfl ty_sl_28 ty_sz_30 hF (fun x147 _ hF => Sn (Sx rfl rfl hb144 ?_)))))))))
                          refine S_faQ rfl ty_fd_30_3 ty_sz_28 (by rw [c_T_api_Node_eq]; rfl) ?_
                          refine Sn (Sx rfl rfl hb144 (S_ldQ rfl (p_one ty_ag_28 ty_sz_28 (congrArg (List.drop 4) (c_T_api_Node_eq x147))) (Sn (Sx rfl rfl hb144 (S_ix rfl rfl ty_sl_28 ty_sz_30 hF (fun x148 _ hF => Sn (Sx rfl rfl hb144 ?_)))))))
                          refine S_faQ rfl ty_fd_30_4 ty_sz_9 (by rw [c_T_api_Node_eq]; rfl) ?_
                          refine Sn (Sx rfl rfl hb144 (S_ldQ rfl (p_one ty_ag_9 ty_sz_9 (congrArg (List.drop 5) (c_T_api_Node_eq x148))) (Sn (Sx rfl rfl hb144 (Ms rfl (Sn (Sx rfl rfl hb144 (S_bin rfl rfl e_sneq (Sn (S_pickF (v := .bool _) rfl hb144 rfl (Sn ?_)))))))))))
                          refine ⟨_, hF, .hd (.refl _) ?_⟩
                          repeat first | with_reducible exact .refl _ | refine .add ?_ rfl
                        · refine Sn ?_
                          refine C_if (b := v146) rfl hF (fun hb149 hF => ?_) (fun hb149 hF => ?_)
                          · refine CR (Ab rfl (Sn (WP_ret ?_)))
                            replace hF := hG127 _ (F_some hF)
                            with_reducible repeat first | apply Exit.sr | apply Exit.br | apply Exit.jr
                            refine C_ret (fn := Tryz.f4) rfl (.tmp (v := .bool false) rfl .nil) ?_
                            exact ⟨_, _, (.refl _), WH.refl _, _, F_some hF, rfl⟩
                          · refine WP_skip (C_reg (mdl []) (S_bin rfl rfl (ev_add ..) (Mi rfl (Sn (ih129 (IntKind.wrap .i64 (a125 + (1 : Int))) _ hF ?_)))))
                            have hwo : WO [(i133, .cells [.I x132.1.Kind, .str x132.1.Name.URI, .str x132.1.Name.Local, .sl 3 (List.map c_T_api_Attr x132.1.Attrs) 0, .sl 6 (List.map c_T_api_Node x132.1.Kids) 0, .str x132.1.Text])] [] := (.drop .nil)
                            exact ⟨(hwo.spec ok).1, WS.mk' (.k (.k (.k (.k .nil)))) ok hwo⟩
                  · refine WP_exit ?_
                    simp only [Exit.sel, Exit.blk, Exit.jmp, if_true, if_false, reduceIte, Nat.reduceEqDiff, Nat.succ_ne_zero, Nat.zero_ne_one, Nat.one_ne_zero]
                    replace hF := hG127 _ (F_some hF)
                    exact ⟨(), hF, ok, WS.mk' .nil ok (.refl _)⟩
              · rintro ⟨⟩ s' hF ⟨ok, hws⟩
                refine WP_ws hws ?_
                clear hws s'
                refine CR (Ab rfl (Sn (WP_ret ?_)))
                with_reducible repeat first | apply Exit.sr | apply Exit.br | apply Exit.jr
                refine C_ret (fn := Tryz.f4) rfl (.tmp (v := .bool true) rfl .nil) ?_
                exact ⟨_, _, (.refl _), WH.refl _, _, F_some hF, rfl⟩
end Go.Proofs.YtilhbalhkljanaaGreatDoor
