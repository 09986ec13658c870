/- The walks. No condition. -/
import Derived.Test.YtfokkdofcekdbaaDoorWk2
set_option linter.unusedVariables false
set_option linter.unusedSimpArgs false
set_option maxRecDepth 20000
set_option maxHeartbeats 8000000
namespace Go.Proofs.YtfokkdofcekdbaaDoor
theorem F_lecternlaw03_ScanShows_w (p0 : List UInt8) (p1 : Bool) {G : Bool → Prop} (h : Heap) (hF : OptP (F_lecternlaw03_ScanShows p0 p1) G) : CallsA Tryd.prog 4 [.sl 1 (List.map c_u8 p0) 0, .bool p1] h fun d h' => ∃ r, G r ∧ d = .bool r := by
 refine CallsA.ret (C_body Tryd.func4 rfl en_4 Tryd.ntmps4 rfl (fun ok => ?_))
 rw [F_lecternlaw03_ScanShows] at hF
 refine C_seq (C_reg (mdl []) (S_a (v := .bool _) rfl (S_nil (C_seq (C_seq (C_reg (mdl []) (S_call (F_lecternlaw03_awake_ok _ hF fun x1 _ hF => (S_un rfl (ev_not _) (S_nil ?_))) (.nil))))))))
 refine C_if (b := (!x1)) rfl hF (fun hb2 hF => ?_) (fun hb2 hF => ?_)
 ·
  refine C_seq (C_reg (mdl []) (S_a (v := .bool _) rfl (S_nil (WP_ret ?_))))
  repeat (first | with_reducible refine Exit.sel_ret ?_ | with_reducible refine Exit.blk_ret ?_ | with_reducible refine Exit.jmp_ret ?_)
  refine C_ret (fn := Tryd.f4) rfl (.tmp (v := .bool false) rfl .nil) ?_
  exact ⟨_, _, (.refl _), WH.refl _, _, F_some hF, rfl⟩
 ·
  refine WP_skip (C_seq (C_reg (mdl []) (S_m (v := .sl _ _ _) rfl (S_call (F_scan_All_ok _ hF fun x3 _ hF => (S_m (v := .tup _) rfl (S_ext rfl rfl (S_ext rfl rfl (S_ext rfl rfl (S_a (v := .sl _ _ _) rfl (S_a (v := .int _ _) rfl (S_a (v := .int _ _) rfl (S_nil (C_seq (C_seq (C_reg (mdl []) (S_m (v := .int _ _) rfl (S_bin rfl rfl (ev_neq ..) (S_nil ?_))))))))))))))) (.cons (.refl _) (.nil))))))
  refine C_if (b := (x3.2.2 != (0 : Int))) rfl hF (fun hb4 hF => ?_) (fun hb4 hF => ?_)
  ·
   refine C_seq (C_reg (mdl []) (S_a (v := .bool _) rfl (S_nil (WP_ret ?_))))
   repeat (first | with_reducible refine Exit.sel_ret ?_ | with_reducible refine Exit.blk_ret ?_ | with_reducible refine Exit.jmp_ret ?_)
   refine C_ret (fn := Tryd.f4) rfl (.tmp (v := .bool true) rfl .nil) ?_
   exact ⟨_, _, (.refl _), WH.refl _, _, F_some hF, rfl⟩
  ·
   refine WP_skip (C_seq (C_reg (mdl []) (S_a (v := .str ([34] : List UInt8)) rfl (S_nil ?_))))
   refine C_join hF (fun (a6 : (List UInt8)) s' => OK h [] ∧ WS s' ⟨mkSl 100 [(5, .sl 6 (List.map c_T_scan_Token x3.1) 0), (8, .str a6)], Hp h []⟩) (fun J7 hF => ?_) ?_
   ·
    refine C_seq (C_reg (mdl []) (S_m (v := .bool _) rfl (S_nil ?_)))
    refine C_if (b := p1) rfl hF (fun hb8 hF => ?_) (fun hb8 hF => ?_)
    ·
     refine C_reg (mdl []) (S_a (v := .str ([39] : List UInt8)) rfl (S_nil ?_))
     have hwo : WO [] [] := .nil
     exact ⟨([39] : List UInt8), hF, (hwo.spec ok).1, WS.mk' (.cons (.refl _) (.cons (.refl _) .nil)) ok hwo⟩
    ·
     refine WP_skip ?_
     have hwo : WO [] [] := .nil
     exact ⟨([34] : List UInt8), hF, (hwo.spec ok).1, WS.mk' (.cons (.refl _) (.cons (.refl _) .nil)) ok hwo⟩
   ·
    rintro a6 s' hF ⟨ok, hws⟩
    refine WP_ws hws ?_
    clear hws s'
    refine C_seq (C_reg (mdl []) (S_a (v := .str ([] : List UInt8)) rfl (S_nil (C_seq (C_reg (mdl []) (S_a (v := .snil) rfl (S_ghost 10 1 ok rfl rfl ?_)))))))
    intro r9 hr9 ok
    refine S_nil ?_
    refine C_join hF (fun (v : (List UInt8) × (List Int)) s' => match v with | (a19, a20) => ∃ g21 : Nat, g21 ≠ 0 ∧ OK h [(g21, .room)] ∧ WS s' ⟨mkSl 100 [(5, .sl 6 (List.map c_T_scan_Token x3.1) 0), (9, .str a19), (10, .sl 1 (List.map c_i64 a20) g21)], Hp h [(g21, .room)]⟩) (fun J22 hF => ?_) ?_
    ·
     refine C_seq (C_reg (mdl []) (S_m (v := .sl _ _ _) rfl (S_lenL rfl ty_sl_24 (S_m (v := .int _ _) rfl (S_nil (WP_block ?_))))))
     refine C_loop (σ := (List UInt8) × (List Int) × Int) hF (fun (v : (List UInt8) × (List Int) × Int) s' => match v with | (a23, a24, a26) => ∃ g25 : Nat, g25 ≠ 0 ∧ OK h [(g25, .room)] ∧ WS s' ⟨mkSl 100 [(5, .sl 6 (List.map c_T_scan_Token x3.1) 0), (8, .str a6), (9, .str a23), (10, .sl 1 (List.map c_i64 a24) g25), (30, .sl 6 (List.map c_T_scan_Token x3.1) 0), (31, .int .i64 (x3.1.length : Int)), (32, .int .i64 a26)], Hp h [(g25, .room)]⟩) ?_ ?_
     ·
      have hwo : WO [(r9, .room)] [(r9, .room)] := (.keep .nil)
      exact ⟨r9, hr9, (hwo.spec ok).1, WS.mk' (.cons (.refl _) (.cons (.refl _) (.cons (.refl _) (.cons (.refl _) (.cons (.refl _) (.cons (.refl _) (.cons (.refl _) .nil))))))) ok hwo⟩
     ·
      rintro G27 hG28 rec29 ⟨a23, a24, a26⟩ s' ih30 hF ⟨g25, hg25, ok, hws⟩
      refine WP_ws hws ?_
      clear hws s'
      rw [F_lecternlaw03_ScanShows_l0] at hF
      refine C_seq (C_reg (mdl []) (S_bin rfl rfl (ev_lss ..) (S_nil (C_seq ?_))))
      refine C_if (b := (decide (a26 < (x3.1.length : Int)))) rfl hF (fun hb31 hF => ?_) (fun hb31 hF => ?_)
      ·
       refine WP_skip (C_seq (WP_block (C_seq (C_reg (mdl [(12, 1)]) (S_ix rfl rfl ty_sl_24 ty_sz_30 hF (fun x32 _ hF => S_ldQ rfl (p_agg (vs := c_T_scan_Token x32) ty_ag_30 ty_sz_30 rfl rfl) (S_all1 ok rfl ty_zc_30 ?_)))))))
       intro i33 hi33 ok
       refine S_st (j := 0) (cs' := [.int .i64 x32.Kind, .int .i64 x32.At, .str x32.Name, .sl 2 (List.map c_T_scan_Pair x32.Pairs) 0, .str x32.Text, .int .i64 x32.Refs]) ok rfl rfl rfl hi33 rfl ty_sz_30 rfl rfl (fun ok => S_nil (C_seq (C_reg (mdl [(40, 2)]) (S_m (v := .sl _ _ _) rfl (S_m (v := .str _) rfl (S_lenS rfl ty_st_9 ?_))))))
       refine S_lit0 (cs := [.int .i64 (a23.length : Int)]) (es := (List.map c_i64 [(a23.length : Int)])) rfl ty_el_35 rfl (by kernel_rfl) (by kernel_rfl) ?_
       refine S_app (j := 1) ok rfl rfl rfl rfl hg25 ty_el_35 ty_ni_35 hF ?_
       intro r34 hr34 ok hF
       refine S_a (v := .sl _ _ _) rfl (S_nil (C_reg (mdl []) (S_m (v := .str _) rfl (S_ldP (j := 0) ok rfl rfl rfl hi33 (p_agg (vs := c_T_scan_Token x32) ty_ag_30 ty_sz_30 rfl rfl) (S_m (v := .str _) rfl (S_call (F_lecternlaw03_shown_ok _ hF fun x35 _ hF => (S_cat rfl rfl hF (fun hF => S_a (v := .str _) rfl (S_nil (C_reg (mdl []) (S_bin rfl rfl (ev_add ..) (S_m (v := .int _ _) rfl (S_nil (ih30 ((a23 ++ x35), (a24 ++ [(a23.length : Int)]), (IntKind.wrap .i64 (a26 + (1 : Int)))) _ hF ?_))))))))) (.cons (.refl _) (.cons (.refl _) (.nil)))))))))
       have hwo : WO [(i33, .cells [.int .i64 x32.Kind, .int .i64 x32.At, .str x32.Name, .sl 2 (List.map c_T_scan_Pair x32.Pairs) 0, .str x32.Text, .int .i64 x32.Refs]), (r34, .room)] [(r34, .room)] := (.drop (.keep .nil))
       exact ⟨r34, hr34, (hwo.spec ok).1, WS.mk' (.cons (.refl _) (.cons (.refl _) (.cons (.refl _) (.cons (.refl _) (.cons (.refl _) (.cons (.refl _) (.cons (.refl _) .nil))))))) ok hwo⟩
      ·
       refine WP_exit ?_
       simp only [Exit.sel, Exit.blk, Exit.jmp, if_true, if_false, reduceIte, Nat.reduceEqDiff, Nat.succ_ne_zero, Nat.zero_ne_one, Nat.one_ne_zero]
       replace hF := hG28 _ (F_some hF)
       have hwo : WO [(g25, .room)] [(g25, .room)] := (.keep .nil)
       exact ⟨(a23, a24), hF, g25, hg25, (hwo.spec ok).1, WS.mk' (.cons (.refl _) (.cons (.refl _) (.cons (.refl _) .nil))) ok hwo⟩
    ·
     rintro ⟨a19, a20⟩ s' hF ⟨g21, hg21, ok, hws⟩
     refine WP_ws hws ?_
     clear hws s'
     refine C_seq (C_seq (C_reg (mdl []) (S_m (v := .str _) rfl (S_lenS rfl ty_st_9 (S_bin rfl rfl (ev_gtr ..) (S_nil ?_))))))
     refine C_if (b := (decide ((65533 : Int) < (a19.length : Int)))) rfl hF (fun hb36 hF => ?_) (fun hb36 hF => ?_)
     ·
      refine C_seq (C_reg (mdl []) (S_a (v := .bool _) rfl (S_nil (WP_ret ?_))))
      repeat (first | with_reducible refine Exit.sel_ret ?_ | with_reducible refine Exit.blk_ret ?_ | with_reducible refine Exit.jmp_ret ?_)
      refine C_ret (fn := Tryd.f4) rfl (.tmp (v := .bool true) rfl .nil) ?_
      exact ⟨_, _, (.refl _), WH.refl _, _, F_some hF, rfl⟩
     ·
      refine WP_skip (C_seq (C_reg (mdl []) (S_m (v := .str _) rfl (S_call (F_lecternlaw03_marked_ok _ hF fun x37 _ hF => (S_call (F_scan_All_ok _ hF fun x38 _ hF => (S_m (v := .tup _) rfl (S_ext rfl rfl (S_ext rfl rfl (S_ext rfl rfl (S_a (v := .sl _ _ _) rfl (S_a (v := .int _ _) rfl (S_a (v := .int _ _) rfl (S_nil (C_seq (C_seq (C_reg (mdl []) (S_m (v := .int _ _) rfl (S_bin rfl rfl (ev_neq ..) (S_m (v := .bool _) rfl ?_))))))))))))))) (.cons (.refl _) (.nil)))) (.cons (.refl _) (.nil))))))
      refine S_two (b := (x38.2.2 != (0 : Int))) 6 65 (.bool ((x38.2.2 != (0 : Int)) || ((x38.1.length : Int) != (x3.1.length : Int)))) (fun hb39 => ?_) (fun hb39 => ?_) ?_
      ·
       refine S_off rfl rfl hb39 (S_offD (S_off rfl rfl hb39 (S_offD (S_off rfl rfl hb39 (S_offD (S_off rfl rfl hb39 (S_offD (S_off rfl rfl hb39 (S_offD (S_pickT (v := .bool _) rfl hb39 rfl (S_nil (.hd (or_t hb39) ?_))))))))))))
       repeat (first | with_reducible exact WS.refl _ | refine WS.add ?_ rfl | exact WS.refl _)
      ·
       refine S_on rfl rfl hb39 (S_in (S_m (v := .sl _ _ _) rfl (S_nil (S_on rfl rfl hb39 (S_in (S_lenL rfl ty_sl_24 (S_nil (S_on rfl rfl hb39 (S_in (S_m (v := .sl _ _ _) rfl (S_nil (S_on rfl rfl hb39 (S_in (S_lenL rfl ty_sl_24 (S_nil (S_on rfl rfl hb39 (S_in (S_bin rfl rfl (ev_neq ..) (S_nil (S_pickF (v := .bool _) rfl hb39 rfl (S_nil (.hd (or_f hb39) ?_))))))))))))))))))))))
       repeat (first | with_reducible exact WS.refl _ | refine WS.add ?_ rfl | exact WS.refl _)
      refine S_nil ?_
      refine C_if (b := ((x38.2.2 != (0 : Int)) || ((x38.1.length : Int) != (x3.1.length : Int)))) rfl hF (fun hb40 hF => ?_) (fun hb40 hF => ?_)
      ·
       refine C_seq (C_reg (mdl []) (S_a (v := .bool _) rfl (S_nil (WP_ret ?_))))
       repeat (first | with_reducible refine Exit.sel_ret ?_ | with_reducible refine Exit.blk_ret ?_ | with_reducible refine Exit.jmp_ret ?_)
       refine C_ret (fn := Tryd.f4) rfl (.tmp (v := .bool false) rfl .nil) ?_
       exact ⟨_, _, (.refl _), WH.refl _, _, F_some hF, rfl⟩
      ·
       refine WP_skip ?_
       refine C_join hF (fun (_ : Unit) s' => OK h [] ∧ WS s' ⟨mkSl 100 [], Hp h []⟩) (fun J223 hF => ?_) ?_
       ·
        refine C_seq (C_reg (mdl []) (S_m (v := .sl _ _ _) rfl (S_lenL rfl ty_sl_24 (S_m (v := .int _ _) rfl (S_nil (WP_block ?_))))))
        refine C_loop (σ := Int) hF (fun (a224 : Int) s' => OK h [(g21, .room)] ∧ WS s' ⟨mkSl 100 [(5, .sl 6 (List.map c_T_scan_Token x3.1) 0), (10, .sl 1 (List.map c_i64 a20) g21), (13, .sl 6 (List.map c_T_scan_Token x38.1) 0), (67, .int .i64 (x3.1.length : Int)), (68, .int .i64 a224)], Hp h [(g21, .room)]⟩) ?_ ?_
        ·
         have hwo : WO [(g21, .room)] [(g21, .room)] := (.keep .nil)
         exact ⟨(hwo.spec ok).1, WS.mk' (.cons (.refl _) (.cons (.refl _) (.cons (.refl _) (.cons (.refl _) (.cons (.refl _) .nil))))) ok hwo⟩
        ·
         rintro G225 hG226 rec227 a224 s' ih228 hF ⟨ok, hws⟩
         refine WP_ws hws ?_
         clear hws s'
         rw [F_lecternlaw03_ScanShows_l1] at hF
         refine C_seq (C_reg (mdl []) (S_bin rfl rfl (ev_lss ..) (S_nil (C_seq ?_))))
         refine C_if (b := (decide (a224 < (x3.1.length : Int)))) rfl hF (fun hb229 hF => ?_) (fun hb229 hF => ?_)
         ·
          refine WP_skip (C_seq (WP_block (C_seq (C_reg (mdl []) (S_m (v := .int _ _) rfl (S_a (v := .int _ _) rfl (S_nil (C_seq ?_))))))))
          refine WP_any N0 (mdl [(17, 1), (18, 1), (74, 3), (79, 3)]) (gamma0 _) (by kernel_rfl) ?_
          refine A_seq [0, 1, 2, 3, 5, 6, 7, 8] [_, _, _, _, _, _, _, _] 6 #[true, true, true, true, false, true, true, true, true, false, false, false, false, false] rfl rfl (by kernel_rfl) (by kernel_rfl) ?_
          refine S_m (v := .sl _ _ _) rfl (S_m (v := .int _ _) rfl (S_ix rfl rfl ty_sl_24 ty_sz_30 hF (fun x230 _ hF => S_ldQ rfl (p_agg (vs := c_T_scan_Token x230) ty_ag_30 ty_sz_30 rfl rfl) (S_m (v := .sl _ _ _) rfl (S_m (v := .int _ _) rfl (S_ix rfl rfl ty_sl_24 ty_sz_30 hF (fun x231 _ hF => S_ldQ rfl (p_agg (vs := c_T_scan_Token x231) ty_ag_30 ty_sz_30 rfl rfl) (S_nil ?_))))))))
          refine A_three 4 10 11 _ _ _ #[true, true, true, true, true, true, true, true, true, false, false, false, false, false] #[true, true, true, true, false, true, true, true, true, false, true, false, false, false] #[true, true, true, true, false, true, true, true, true, false, false, true, false, false] (by kernel_rfl) rfl rfl rfl (by kernel_rfl) (by kernel_rfl) (by kernel_rfl) ?_ ?_ ?_
          ·
           refine S_call (F_lecternlaw03_doc_ok _ hF fun x232 _ hF => (S_nil ?_)) (.cons (.refl _) (.nil))
           refine A_seq [] [] 5 #[true, true, true, true, true, true, true, true, true, false, false, false, false, false] rfl rfl (by kernel_rfl) (by kernel_rfl) ?_
           refine S_nil ?_
           refine A_three 9 10 11 _ _ _ #[true, true, true, true, true, true, true, true, true, true, false, false, false, false] #[true, true, true, true, true, true, true, true, true, false, true, false, false, false] #[true, true, true, true, true, true, true, true, true, false, false, true, false, false] (by kernel_rfl) rfl rfl rfl (by kernel_rfl) (by kernel_rfl) (by kernel_rfl) ?_ ?_ ?_
           ·
            refine S_call (F_lecternlaw03_doc_ok _ hF fun x233 _ hF => (S_nil ?_)) (.cons (.refl _) (.nil))
            refine A_seq [] [] 4 #[true, true, true, true, true, true, true, true, true, true, false, false, false, false] rfl rfl (by kernel_rfl) (by kernel_rfl) ?_
            refine S_nil ?_
            refine A_two 10 11 _ _ #[true, true, true, true, true, true, true, true, true, true, true, false, false, false] #[true, true, true, true, true, true, true, true, true, true, false, true, false, false] (by kernel_rfl) rfl rfl (by kernel_rfl) (by kernel_rfl) ?_ ?_
            ·
             refine S_all1 ok rfl ty_zc_40 ?_
             intro i234 hi234 ok
             refine S_nil ?_
             refine A_seq [11, 12, 13] [_, _, _] 0 #[true, true, true, true, true, true, true, true, true, true, true, true, true, true] rfl rfl (by kernel_rfl) (by kernel_rfl) ?_
             refine S_all1 ok rfl ty_zc_40 ?_
             intro i235 hi235 ok
             refine S_st (j := 1) (cs' := [.int .i64 x232.Kind, .int .i64 x232.At, .str x232.Name, .sl 2 (List.map c_T_scan_Pair x232.Pairs) 0, .str x232.Text, .int .i64 x232.Refs]) ok rfl rfl rfl hi234 rfl ty_sz_40 rfl rfl (fun ok => S_st (j := 0) (cs' := [.int .i64 x233.Kind, .int .i64 x233.At, .str x233.Name, .sl 2 (List.map c_T_scan_Pair x233.Pairs) 0, .str x233.Text, .int .i64 x233.Refs]) ok rfl rfl rfl hi235 rfl ty_sz_40 rfl rfl (fun ok => S_nil ?_))
             refine A_end (by kernel_rfl) ?_
             refine C_seq (C_reg (mdl []) (S_faP rfl ty_fd_40_5 ty_sz_3 (S_st (j := 1) (cs' := [.int .i64 x232.Kind, .int .i64 x232.At, .str x232.Name, .sl 2 (List.map c_T_scan_Pair x232.Pairs) 0, .str x232.Text, .int .i64 (0 : Int)]) ok rfl rfl rfl hi234 rfl ty_sz_3 rfl rfl (fun ok => S_faP rfl ty_fd_40_5 ty_sz_3 (S_st (j := 0) (cs' := [.int .i64 x233.Kind, .int .i64 x233.At, .str x233.Name, .sl 2 (List.map c_T_scan_Pair x233.Pairs) 0, .str x233.Text, .int .i64 (0 : Int)]) ok rfl rfl rfl hi235 rfl ty_sz_3 rfl rfl (fun ok => S_nil ?_))))))
             refine C_join hF (fun (a241 : Bool) s' => OK h [(g21, .room)] ∧ WS s' ⟨mkSl 100 [(5, .sl 6 (List.map c_T_scan_Token x3.1) 0), (10, .sl 1 (List.map c_i64 a20) g21), (13, .sl 6 (List.map c_T_scan_Token x38.1) 0), (67, .int .i64 (x3.1.length : Int)), (68, .int .i64 a224), (98, .bool a241)], Hp h [(g21, .room)]⟩) (fun J242 hF => ?_) ?_
             ·
              refine C_drw (mdl [(92, 3), (96, 3)]) (by kernel_rfl) (by kernel_rfl) ?_
              refine S_ldP (j := 1) ok rfl rfl rfl hi234 (p_agg (vs := c_T_lecternref03_Token (⟨x232.Kind, x232.At, x232.Name, x232.Pairs, x232.Text, (0 : Int)⟩ : T_lecternref03_Token)) ty_ag_40 ty_sz_40 rfl rfl) (S_ldP (j := 0) ok rfl rfl rfl hi235 (p_agg (vs := c_T_lecternref03_Token (⟨x233.Kind, x233.At, x233.Name, x233.Pairs, x233.Text, (0 : Int)⟩ : T_lecternref03_Token)) ty_ag_40 ty_sz_40 rfl rfl) (S_call (F_lecternref03_Same_ok _ hF fun x243 _ hF => (S_un rfl (ev_not _) (S_m (v := .bool _) rfl ?_))) (.cons (.refl _) (.cons (.refl _) (.nil)))))
              refine S_if (b := (!x243)) hF (fun hb244 hF => ?_) (fun hb245 hF => ?_)
              ·
               refine S_off rfl rfl hb244 (S_offD (S_off rfl rfl hb244 (S_offD (S_off rfl rfl hb244 (S_offD (S_off rfl rfl hb244 (S_offD (S_off rfl rfl hb244 (S_offD (S_off rfl rfl hb244 (S_offD (S_off rfl rfl hb244 (S_offD (S_off rfl rfl hb244 (S_offD (S_off rfl rfl hb244 (S_offD (S_off rfl rfl hb244 (S_offD (S_pickT (v := .bool _) rfl hb244 rfl (S_nil ?_)))))))))))))))))))))
               have hwo : WO [(i235, .cells [.int .i64 x233.Kind, .int .i64 x233.At, .str x233.Name, .sl 2 (List.map c_T_scan_Pair x233.Pairs) 0, .str x233.Text, .int .i64 (0 : Int)]), (i234, .cells [.int .i64 x232.Kind, .int .i64 x232.At, .str x232.Name, .sl 2 (List.map c_T_scan_Pair x232.Pairs) 0, .str x232.Text, .int .i64 (0 : Int)]), (g21, .room)] [(g21, .room)] := (.drop (.drop (.keep .nil)))
               exact ⟨true, hF, (hwo.spec ok).1, WS.mk' (.cons (.refl _) (.cons (.refl _) (.cons (.refl _) (.cons (.refl _) (.cons (.refl _) (.cons (.refl _) .nil)))))) ok hwo⟩
              ·
               refine S_on rfl rfl hb245 (S_in (S_m (v := .sl _ _ _) rfl (S_nil (S_on rfl rfl hb245 (S_in (S_m (v := .int _ _) rfl (S_nil (S_on rfl rfl hb245 (S_in (S_ix rfl rfl ty_sl_24 ty_sz_30 hF (fun x246 _ hF => S_nil (S_on rfl rfl hb245 (S_in (S_faQ rfl ty_fd_30_1 ty_sz_3 rfl (S_nil (S_on rfl rfl hb245 (S_in (S_ldQ rfl (p_one ty_ag_3 ty_sz_3 rfl) (S_nil (S_on rfl rfl hb245 (S_in (S_m (v := .sl _ _ _) rfl (S_nil (S_on rfl rfl hb245 (S_in (S_m (v := .int _ _) rfl (S_nil (S_on rfl rfl hb245 (S_in (S_ix rfl rfl ty_sl_35 ty_sz_3 hF (fun x247 _ hF => S_nil (S_on rfl rfl hb245 (S_in (S_ldQ rfl (p_one ty_ag_3 ty_sz_3 rfl) (S_nil (S_on rfl rfl hb245 (S_in (S_bin rfl rfl (ev_neq ..) (S_nil ?_)))))))))))))))))))))))))))))))))))))))
               refine S_pickF (v := .bool _) rfl hb245 rfl (S_nil ?_)
               have hwo : WO [(i235, .cells [.int .i64 x233.Kind, .int .i64 x233.At, .str x233.Name, .sl 2 (List.map c_T_scan_Pair x233.Pairs) 0, .str x233.Text, .int .i64 (0 : Int)]), (i234, .cells [.int .i64 x232.Kind, .int .i64 x232.At, .str x232.Name, .sl 2 (List.map c_T_scan_Pair x232.Pairs) 0, .str x232.Text, .int .i64 (0 : Int)]), (g21, .room)] [(g21, .room)] := (.drop (.drop (.keep .nil)))
               exact ⟨(x246.At != x247), hF, (hwo.spec ok).1, WS.mk' (.cons (.refl _) (.cons (.refl _) (.cons (.refl _) (.cons (.refl _) (.cons (.refl _) (.cons (.refl _) .nil)))))) ok hwo⟩
             ·
              rintro a241 s' hF ⟨ok, hws⟩
              refine WP_ws hws ?_
              clear hws s'
              refine C_if (b := a241) rfl hF (fun hb248 hF => ?_) (fun hb248 hF => ?_)
              ·
               refine C_seq (C_reg (mdl []) (S_a (v := .bool _) rfl (S_nil (WP_ret ?_))))
               replace hF := hG226 _ (F_some hF)
               repeat (first | with_reducible refine Exit.sel_ret ?_ | with_reducible refine Exit.blk_ret ?_ | with_reducible refine Exit.jmp_ret ?_)
               refine C_ret (fn := Tryd.f4) rfl (.tmp (v := .bool false) rfl .nil) ?_
               exact ⟨_, _, (.refl _), WH.refl _, _, F_some hF, rfl⟩
              ·
               refine WP_skip (C_reg (mdl []) (S_bin rfl rfl (ev_add ..) (S_m (v := .int _ _) rfl (S_nil (ih228 (IntKind.wrap .i64 (a224 + (1 : Int))) _ hF ?_)))))
               have hwo : WO [(g21, .room)] [(g21, .room)] := (.keep .nil)
               exact ⟨(hwo.spec ok).1, WS.mk' (.cons (.refl _) (.cons (.refl _) (.cons (.refl _) (.cons (.refl _) (.cons (.refl _) .nil))))) ok hwo⟩
            ·
             refine S_all1 ok rfl ty_zc_40 ?_
             intro i249 hi249 ok
             refine S_nil ?_
             refine A_seq [10, 12, 13] [_, _, _] 0 #[true, true, true, true, true, true, true, true, true, true, true, true, true, true] rfl rfl (by kernel_rfl) (by kernel_rfl) ?_
             refine S_all1 ok rfl ty_zc_40 ?_
             intro i250 hi250 ok
             refine S_st (j := 0) (cs' := [.int .i64 x232.Kind, .int .i64 x232.At, .str x232.Name, .sl 2 (List.map c_T_scan_Pair x232.Pairs) 0, .str x232.Text, .int .i64 x232.Refs]) ok rfl rfl rfl hi250 rfl ty_sz_40 rfl rfl (fun ok => S_st (j := 1) (cs' := [.int .i64 x233.Kind, .int .i64 x233.At, .str x233.Name, .sl 2 (List.map c_T_scan_Pair x233.Pairs) 0, .str x233.Text, .int .i64 x233.Refs]) ok rfl rfl rfl hi249 rfl ty_sz_40 rfl rfl (fun ok => S_nil ?_))
             refine A_end (by kernel_rfl) ?_
             refine C_seq (C_reg (mdl []) (S_faP rfl ty_fd_40_5 ty_sz_3 (S_st (j := 0) (cs' := [.int .i64 x232.Kind, .int .i64 x232.At, .str x232.Name, .sl 2 (List.map c_T_scan_Pair x232.Pairs) 0, .str x232.Text, .int .i64 (0 : Int)]) ok rfl rfl rfl hi250 rfl ty_sz_3 rfl rfl (fun ok => S_faP rfl ty_fd_40_5 ty_sz_3 (S_st (j := 1) (cs' := [.int .i64 x233.Kind, .int .i64 x233.At, .str x233.Name, .sl 2 (List.map c_T_scan_Pair x233.Pairs) 0, .str x233.Text, .int .i64 (0 : Int)]) ok rfl rfl rfl hi249 rfl ty_sz_3 rfl rfl (fun ok => S_nil ?_))))))
             refine C_join hF (fun (a256 : Bool) s' => OK h [(g21, .room)] ∧ WS s' ⟨mkSl 100 [(5, .sl 6 (List.map c_T_scan_Token x3.1) 0), (10, .sl 1 (List.map c_i64 a20) g21), (13, .sl 6 (List.map c_T_scan_Token x38.1) 0), (67, .int .i64 (x3.1.length : Int)), (68, .int .i64 a224), (98, .bool a256)], Hp h [(g21, .room)]⟩) (fun J257 hF => ?_) ?_
             ·
              refine C_drw (mdl [(92, 3), (96, 3)]) (by kernel_rfl) (by kernel_rfl) ?_
              refine S_ldP (j := 0) ok rfl rfl rfl hi250 (p_agg (vs := c_T_lecternref03_Token (⟨x232.Kind, x232.At, x232.Name, x232.Pairs, x232.Text, (0 : Int)⟩ : T_lecternref03_Token)) ty_ag_40 ty_sz_40 rfl rfl) (S_ldP (j := 1) ok rfl rfl rfl hi249 (p_agg (vs := c_T_lecternref03_Token (⟨x233.Kind, x233.At, x233.Name, x233.Pairs, x233.Text, (0 : Int)⟩ : T_lecternref03_Token)) ty_ag_40 ty_sz_40 rfl rfl) (S_call (F_lecternref03_Same_ok _ hF fun x258 _ hF => (S_un rfl (ev_not _) (S_m (v := .bool _) rfl ?_))) (.cons (.refl _) (.cons (.refl _) (.nil)))))
              refine S_if (b := (!x258)) hF (fun hb259 hF => ?_) (fun hb260 hF => ?_)
              ·
               refine S_off rfl rfl hb259 (S_offD (S_off rfl rfl hb259 (S_offD (S_off rfl rfl hb259 (S_offD (S_off rfl rfl hb259 (S_offD (S_off rfl rfl hb259 (S_offD (S_off rfl rfl hb259 (S_offD (S_off rfl rfl hb259 (S_offD (S_off rfl rfl hb259 (S_offD (S_off rfl rfl hb259 (S_offD (S_off rfl rfl hb259 (S_offD (S_pickT (v := .bool _) rfl hb259 rfl (S_nil ?_)))))))))))))))))))))
               have hwo : WO [(i250, .cells [.int .i64 x232.Kind, .int .i64 x232.At, .str x232.Name, .sl 2 (List.map c_T_scan_Pair x232.Pairs) 0, .str x232.Text, .int .i64 (0 : Int)]), (i249, .cells [.int .i64 x233.Kind, .int .i64 x233.At, .str x233.Name, .sl 2 (List.map c_T_scan_Pair x233.Pairs) 0, .str x233.Text, .int .i64 (0 : Int)]), (g21, .room)] [(g21, .room)] := (.drop (.drop (.keep .nil)))
               exact ⟨true, hF, (hwo.spec ok).1, WS.mk' (.cons (.refl _) (.cons (.refl _) (.cons (.refl _) (.cons (.refl _) (.cons (.refl _) (.cons (.refl _) .nil)))))) ok hwo⟩
              ·
               refine S_on rfl rfl hb260 (S_in (S_m (v := .sl _ _ _) rfl (S_nil (S_on rfl rfl hb260 (S_in (S_m (v := .int _ _) rfl (S_nil (S_on rfl rfl hb260 (S_in (S_ix rfl rfl ty_sl_24 ty_sz_30 hF (fun x261 _ hF => S_nil (S_on rfl rfl hb260 (S_in (S_faQ rfl ty_fd_30_1 ty_sz_3 rfl (S_nil (S_on rfl rfl hb260 (S_in (S_ldQ rfl (p_one ty_ag_3 ty_sz_3 rfl) (S_nil (S_on rfl rfl hb260 (S_in (S_m (v := .sl _ _ _) rfl (S_nil (S_on rfl rfl hb260 (S_in (S_m (v := .int _ _) rfl (S_nil (S_on rfl rfl hb260 (S_in (S_ix rfl rfl ty_sl_35 ty_sz_3 hF (fun x262 _ hF => S_nil (S_on rfl rfl hb260 (S_in (S_ldQ rfl (p_one ty_ag_3 ty_sz_3 rfl) (S_nil (S_on rfl rfl hb260 (S_in (S_bin rfl rfl (ev_neq ..) (S_nil ?_)))))))))))))))))))))))))))))))))))))))
               refine S_pickF (v := .bool _) rfl hb260 rfl (S_nil ?_)
               have hwo : WO [(i250, .cells [.int .i64 x232.Kind, .int .i64 x232.At, .str x232.Name, .sl 2 (List.map c_T_scan_Pair x232.Pairs) 0, .str x232.Text, .int .i64 (0 : Int)]), (i249, .cells [.int .i64 x233.Kind, .int .i64 x233.At, .str x233.Name, .sl 2 (List.map c_T_scan_Pair x233.Pairs) 0, .str x233.Text, .int .i64 (0 : Int)]), (g21, .room)] [(g21, .room)] := (.drop (.drop (.keep .nil)))
               exact ⟨(x261.At != x262), hF, (hwo.spec ok).1, WS.mk' (.cons (.refl _) (.cons (.refl _) (.cons (.refl _) (.cons (.refl _) (.cons (.refl _) (.cons (.refl _) .nil)))))) ok hwo⟩
             ·
              rintro a256 s' hF ⟨ok, hws⟩
              refine WP_ws hws ?_
              clear hws s'
              refine C_if (b := a256) rfl hF (fun hb263 hF => ?_) (fun hb263 hF => ?_)
              ·
               refine C_seq (C_reg (mdl []) (S_a (v := .bool _) rfl (S_nil (WP_ret ?_))))
               replace hF := hG226 _ (F_some hF)
               repeat (first | with_reducible refine Exit.sel_ret ?_ | with_reducible refine Exit.blk_ret ?_ | with_reducible refine Exit.jmp_ret ?_)
               refine C_ret (fn := Tryd.f4) rfl (.tmp (v := .bool false) rfl .nil) ?_
               exact ⟨_, _, (.refl _), WH.refl _, _, F_some hF, rfl⟩
              ·
               refine WP_skip (C_reg (mdl []) (S_bin rfl rfl (ev_add ..) (S_m (v := .int _ _) rfl (S_nil (ih228 (IntKind.wrap .i64 (a224 + (1 : Int))) _ hF ?_)))))
               have hwo : WO [(g21, .room)] [(g21, .room)] := (.keep .nil)
               exact ⟨(hwo.spec ok).1, WS.mk' (.cons (.refl _) (.cons (.refl _) (.cons (.refl _) (.cons (.refl _) (.cons (.refl _) .nil))))) ok hwo⟩
           ·
            refine S_all1 ok rfl ty_zc_40 ?_
            intro i264 hi264 ok
            refine S_nil ?_
            refine A_seq [] [] 4 #[true, true, true, true, true, true, true, true, true, false, true, false, false, false] rfl rfl (by kernel_rfl) (by kernel_rfl) ?_
            refine S_nil ?_
            refine A_two 9 11 _ _ #[true, true, true, true, true, true, true, true, true, true, true, false, false, false] #[true, true, true, true, true, true, true, true, true, false, true, true, false, false] (by kernel_rfl) rfl rfl (by kernel_rfl) (by kernel_rfl) ?_ ?_
            ·
             refine S_call (F_lecternlaw03_doc_ok _ hF fun x265 _ hF => (S_nil ?_)) (.cons (.refl _) (.nil))
             refine A_seq [11, 12, 13] [_, _, _] 0 #[true, true, true, true, true, true, true, true, true, true, true, true, true, true] rfl rfl (by kernel_rfl) (by kernel_rfl) ?_
             refine S_all1 ok rfl ty_zc_40 ?_
             intro i266 hi266 ok
             refine S_st (j := 1) (cs' := [.int .i64 x232.Kind, .int .i64 x232.At, .str x232.Name, .sl 2 (List.map c_T_scan_Pair x232.Pairs) 0, .str x232.Text, .int .i64 x232.Refs]) ok rfl rfl rfl hi264 rfl ty_sz_40 rfl rfl (fun ok => S_st (j := 0) (cs' := [.int .i64 x265.Kind, .int .i64 x265.At, .str x265.Name, .sl 2 (List.map c_T_scan_Pair x265.Pairs) 0, .str x265.Text, .int .i64 x265.Refs]) ok rfl rfl rfl hi266 rfl ty_sz_40 rfl rfl (fun ok => S_nil ?_))
             refine A_end (by kernel_rfl) ?_
             refine C_seq (C_reg (mdl []) (S_faP rfl ty_fd_40_5 ty_sz_3 (S_st (j := 1) (cs' := [.int .i64 x232.Kind, .int .i64 x232.At, .str x232.Name, .sl 2 (List.map c_T_scan_Pair x232.Pairs) 0, .str x232.Text, .int .i64 (0 : Int)]) ok rfl rfl rfl hi264 rfl ty_sz_3 rfl rfl (fun ok => S_faP rfl ty_fd_40_5 ty_sz_3 (S_st (j := 0) (cs' := [.int .i64 x265.Kind, .int .i64 x265.At, .str x265.Name, .sl 2 (List.map c_T_scan_Pair x265.Pairs) 0, .str x265.Text, .int .i64 (0 : Int)]) ok rfl rfl rfl hi266 rfl ty_sz_3 rfl rfl (fun ok => S_nil ?_))))))
             refine C_join hF (fun (a272 : Bool) s' => OK h [(g21, .room)] ∧ WS s' ⟨mkSl 100 [(5, .sl 6 (List.map c_T_scan_Token x3.1) 0), (10, .sl 1 (List.map c_i64 a20) g21), (13, .sl 6 (List.map c_T_scan_Token x38.1) 0), (67, .int .i64 (x3.1.length : Int)), (68, .int .i64 a224), (98, .bool a272)], Hp h [(g21, .room)]⟩) (fun J273 hF => ?_) ?_
             ·
              refine C_drw (mdl [(92, 3), (96, 3)]) (by kernel_rfl) (by kernel_rfl) ?_
              refine S_ldP (j := 1) ok rfl rfl rfl hi264 (p_agg (vs := c_T_lecternref03_Token (⟨x232.Kind, x232.At, x232.Name, x232.Pairs, x232.Text, (0 : Int)⟩ : T_lecternref03_Token)) ty_ag_40 ty_sz_40 rfl rfl) (S_ldP (j := 0) ok rfl rfl rfl hi266 (p_agg (vs := c_T_lecternref03_Token (⟨x265.Kind, x265.At, x265.Name, x265.Pairs, x265.Text, (0 : Int)⟩ : T_lecternref03_Token)) ty_ag_40 ty_sz_40 rfl rfl) (S_call (F_lecternref03_Same_ok _ hF fun x274 _ hF => (S_un rfl (ev_not _) (S_m (v := .bool _) rfl ?_))) (.cons (.refl _) (.cons (.refl _) (.nil)))))
              refine S_if (b := (!x274)) hF (fun hb275 hF => ?_) (fun hb276 hF => ?_)
              ·
               refine S_off rfl rfl hb275 (S_offD (S_off rfl rfl hb275 (S_offD (S_off rfl rfl hb275 (S_offD (S_off rfl rfl hb275 (S_offD (S_off rfl rfl hb275 (S_offD (S_off rfl rfl hb275 (S_offD (S_off rfl rfl hb275 (S_offD (S_off rfl rfl hb275 (S_offD (S_off rfl rfl hb275 (S_offD (S_off rfl rfl hb275 (S_offD (S_pickT (v := .bool _) rfl hb275 rfl (S_nil ?_)))))))))))))))))))))
               have hwo : WO [(i266, .cells [.int .i64 x265.Kind, .int .i64 x265.At, .str x265.Name, .sl 2 (List.map c_T_scan_Pair x265.Pairs) 0, .str x265.Text, .int .i64 (0 : Int)]), (i264, .cells [.int .i64 x232.Kind, .int .i64 x232.At, .str x232.Name, .sl 2 (List.map c_T_scan_Pair x232.Pairs) 0, .str x232.Text, .int .i64 (0 : Int)]), (g21, .room)] [(g21, .room)] := (.drop (.drop (.keep .nil)))
               exact ⟨true, hF, (hwo.spec ok).1, WS.mk' (.cons (.refl _) (.cons (.refl _) (.cons (.refl _) (.cons (.refl _) (.cons (.refl _) (.cons (.refl _) .nil)))))) ok hwo⟩
              ·
               refine S_on rfl rfl hb276 (S_in (S_m (v := .sl _ _ _) rfl (S_nil (S_on rfl rfl hb276 (S_in (S_m (v := .int _ _) rfl (S_nil (S_on rfl rfl hb276 (S_in (S_ix rfl rfl ty_sl_24 ty_sz_30 hF (fun x277 _ hF => S_nil (S_on rfl rfl hb276 (S_in (S_faQ rfl ty_fd_30_1 ty_sz_3 rfl (S_nil (S_on rfl rfl hb276 (S_in (S_ldQ rfl (p_one ty_ag_3 ty_sz_3 rfl) (S_nil (S_on rfl rfl hb276 (S_in (S_m (v := .sl _ _ _) rfl (S_nil (S_on rfl rfl hb276 (S_in (S_m (v := .int _ _) rfl (S_nil (S_on rfl rfl hb276 (S_in (S_ix rfl rfl ty_sl_35 ty_sz_3 hF (fun x278 _ hF => S_nil (S_on rfl rfl hb276 (S_in (S_ldQ rfl (p_one ty_ag_3 ty_sz_3 rfl) (S_nil (S_on rfl rfl hb276 (S_in (S_bin rfl rfl (ev_neq ..) (S_nil ?_)))))))))))))))))))))))))))))))))))))))
               refine S_pickF (v := .bool _) rfl hb276 rfl (S_nil ?_)
               have hwo : WO [(i266, .cells [.int .i64 x265.Kind, .int .i64 x265.At, .str x265.Name, .sl 2 (List.map c_T_scan_Pair x265.Pairs) 0, .str x265.Text, .int .i64 (0 : Int)]), (i264, .cells [.int .i64 x232.Kind, .int .i64 x232.At, .str x232.Name, .sl 2 (List.map c_T_scan_Pair x232.Pairs) 0, .str x232.Text, .int .i64 (0 : Int)]), (g21, .room)] [(g21, .room)] := (.drop (.drop (.keep .nil)))
               exact ⟨(x277.At != x278), hF, (hwo.spec ok).1, WS.mk' (.cons (.refl _) (.cons (.refl _) (.cons (.refl _) (.cons (.refl _) (.cons (.refl _) (.cons (.refl _) .nil)))))) ok hwo⟩
             ·
              rintro a272 s' hF ⟨ok, hws⟩
              refine WP_ws hws ?_
              clear hws s'
              refine C_if (b := a272) rfl hF (fun hb279 hF => ?_) (fun hb279 hF => ?_)
              ·
               refine C_seq (C_reg (mdl []) (S_a (v := .bool _) rfl (S_nil (WP_ret ?_))))
               replace hF := hG226 _ (F_some hF)
               repeat (first | with_reducible refine Exit.sel_ret ?_ | with_reducible refine Exit.blk_ret ?_ | with_reducible refine Exit.jmp_ret ?_)
               refine C_ret (fn := Tryd.f4) rfl (.tmp (v := .bool false) rfl .nil) ?_
               exact ⟨_, _, (.refl _), WH.refl _, _, F_some hF, rfl⟩
              ·
               refine WP_skip (C_reg (mdl []) (S_bin rfl rfl (ev_add ..) (S_m (v := .int _ _) rfl (S_nil (ih228 (IntKind.wrap .i64 (a224 + (1 : Int))) _ hF ?_)))))
               have hwo : WO [(g21, .room)] [(g21, .room)] := (.keep .nil)
               exact ⟨(hwo.spec ok).1, WS.mk' (.cons (.refl _) (.cons (.refl _) (.cons (.refl _) (.cons (.refl _) (.cons (.refl _) .nil))))) ok hwo⟩
            ·
             refine S_all1 ok rfl ty_zc_40 ?_
             intro i280 hi280 ok
             refine S_nil ?_
             refine A_seq [9, 12, 13] [_, _, _] 0 #[true, true, true, true, true, true, true, true, true, true, true, true, true, true] rfl rfl (by kernel_rfl) (by kernel_rfl) ?_
             refine S_call (F_lecternlaw03_doc_ok _ hF fun x281 _ hF => (S_st (j := 1) (cs' := [.int .i64 x232.Kind, .int .i64 x232.At, .str x232.Name, .sl 2 (List.map c_T_scan_Pair x232.Pairs) 0, .str x232.Text, .int .i64 x232.Refs]) ok rfl rfl rfl hi264 rfl ty_sz_40 rfl rfl (fun ok => S_st (j := 0) (cs' := [.int .i64 x281.Kind, .int .i64 x281.At, .str x281.Name, .sl 2 (List.map c_T_scan_Pair x281.Pairs) 0, .str x281.Text, .int .i64 x281.Refs]) ok rfl rfl rfl hi280 rfl ty_sz_40 rfl rfl (fun ok => S_nil ?_)))) (.cons (.refl _) (.nil))
             refine A_end (by kernel_rfl) ?_
             refine C_seq (C_reg (mdl []) (S_faP rfl ty_fd_40_5 ty_sz_3 (S_st (j := 1) (cs' := [.int .i64 x232.Kind, .int .i64 x232.At, .str x232.Name, .sl 2 (List.map c_T_scan_Pair x232.Pairs) 0, .str x232.Text, .int .i64 (0 : Int)]) ok rfl rfl rfl hi264 rfl ty_sz_3 rfl rfl (fun ok => S_faP rfl ty_fd_40_5 ty_sz_3 (S_st (j := 0) (cs' := [.int .i64 x281.Kind, .int .i64 x281.At, .str x281.Name, .sl 2 (List.map c_T_scan_Pair x281.Pairs) 0, .str x281.Text, .int .i64 (0 : Int)]) ok rfl rfl rfl hi280 rfl ty_sz_3 rfl rfl (fun ok => S_nil ?_))))))
             refine C_join hF (fun (a287 : Bool) s' => OK h [(g21, .room)] ∧ WS s' ⟨mkSl 100 [(5, .sl 6 (List.map c_T_scan_Token x3.1) 0), (10, .sl 1 (List.map c_i64 a20) g21), (13, .sl 6 (List.map c_T_scan_Token x38.1) 0), (67, .int .i64 (x3.1.length : Int)), (68, .int .i64 a224), (98, .bool a287)], Hp h [(g21, .room)]⟩) (fun J288 hF => ?_) ?_
             ·
              refine C_drw (mdl [(92, 3), (96, 3)]) (by kernel_rfl) (by kernel_rfl) ?_
              refine S_ldP (j := 1) ok rfl rfl rfl hi264 (p_agg (vs := c_T_lecternref03_Token (⟨x232.Kind, x232.At, x232.Name, x232.Pairs, x232.Text, (0 : Int)⟩ : T_lecternref03_Token)) ty_ag_40 ty_sz_40 rfl rfl) (S_ldP (j := 0) ok rfl rfl rfl hi280 (p_agg (vs := c_T_lecternref03_Token (⟨x281.Kind, x281.At, x281.Name, x281.Pairs, x281.Text, (0 : Int)⟩ : T_lecternref03_Token)) ty_ag_40 ty_sz_40 rfl rfl) (S_call (F_lecternref03_Same_ok _ hF fun x289 _ hF => (S_un rfl (ev_not _) (S_m (v := .bool _) rfl ?_))) (.cons (.refl _) (.cons (.refl _) (.nil)))))
              refine S_if (b := (!x289)) hF (fun hb290 hF => ?_) (fun hb291 hF => ?_)
              ·
               refine S_off rfl rfl hb290 (S_offD (S_off rfl rfl hb290 (S_offD (S_off rfl rfl hb290 (S_offD (S_off rfl rfl hb290 (S_offD (S_off rfl rfl hb290 (S_offD (S_off rfl rfl hb290 (S_offD (S_off rfl rfl hb290 (S_offD (S_off rfl rfl hb290 (S_offD (S_off rfl rfl hb290 (S_offD (S_off rfl rfl hb290 (S_offD (S_pickT (v := .bool _) rfl hb290 rfl (S_nil ?_)))))))))))))))))))))
               have hwo : WO [(i280, .cells [.int .i64 x281.Kind, .int .i64 x281.At, .str x281.Name, .sl 2 (List.map c_T_scan_Pair x281.Pairs) 0, .str x281.Text, .int .i64 (0 : Int)]), (i264, .cells [.int .i64 x232.Kind, .int .i64 x232.At, .str x232.Name, .sl 2 (List.map c_T_scan_Pair x232.Pairs) 0, .str x232.Text, .int .i64 (0 : Int)]), (g21, .room)] [(g21, .room)] := (.drop (.drop (.keep .nil)))
               exact ⟨true, hF, (hwo.spec ok).1, WS.mk' (.cons (.refl _) (.cons (.refl _) (.cons (.refl _) (.cons (.refl _) (.cons (.refl _) (.cons (.refl _) .nil)))))) ok hwo⟩
              ·
               refine S_on rfl rfl hb291 (S_in (S_m (v := .sl _ _ _) rfl (S_nil (S_on rfl rfl hb291 (S_in (S_m (v := .int _ _) rfl (S_nil (S_on rfl rfl hb291 (S_in (S_ix rfl rfl ty_sl_24 ty_sz_30 hF (fun x292 _ hF => S_nil (S_on rfl rfl hb291 (S_in (S_faQ rfl ty_fd_30_1 ty_sz_3 rfl (S_nil (S_on rfl rfl hb291 (S_in (S_ldQ rfl (p_one ty_ag_3 ty_sz_3 rfl) (S_nil (S_on rfl rfl hb291 (S_in (S_m (v := .sl _ _ _) rfl (S_nil (S_on rfl rfl hb291 (S_in (S_m (v := .int _ _) rfl (S_nil (S_on rfl rfl hb291 (S_in (S_ix rfl rfl ty_sl_35 ty_sz_3 hF (fun x293 _ hF => S_nil (S_on rfl rfl hb291 (S_in (S_ldQ rfl (p_one ty_ag_3 ty_sz_3 rfl) (S_nil (S_on rfl rfl hb291 (S_in (S_bin rfl rfl (ev_neq ..) (S_nil ?_)))))))))))))))))))))))))))))))))))))))
               refine S_pickF (v := .bool _) rfl hb291 rfl (S_nil ?_)
               have hwo : WO [(i280, .cells [.int .i64 x281.Kind, .int .i64 x281.At, .str x281.Name, .sl 2 (List.map c_T_scan_Pair x281.Pairs) 0, .str x281.Text, .int .i64 (0 : Int)]), (i264, .cells [.int .i64 x232.Kind, .int .i64 x232.At, .str x232.Name, .sl 2 (List.map c_T_scan_Pair x232.Pairs) 0, .str x232.Text, .int .i64 (0 : Int)]), (g21, .room)] [(g21, .room)] := (.drop (.drop (.keep .nil)))
               exact ⟨(x292.At != x293), hF, (hwo.spec ok).1, WS.mk' (.cons (.refl _) (.cons (.refl _) (.cons (.refl _) (.cons (.refl _) (.cons (.refl _) (.cons (.refl _) .nil)))))) ok hwo⟩
             ·
              rintro a287 s' hF ⟨ok, hws⟩
              refine WP_ws hws ?_
              clear hws s'
              refine C_if (b := a287) rfl hF (fun hb294 hF => ?_) (fun hb294 hF => ?_)
              ·
               refine C_seq (C_reg (mdl []) (S_a (v := .bool _) rfl (S_nil (WP_ret ?_))))
               replace hF := hG226 _ (F_some hF)
               repeat (first | with_reducible refine Exit.sel_ret ?_ | with_reducible refine Exit.blk_ret ?_ | with_reducible refine Exit.jmp_ret ?_)
               refine C_ret (fn := Tryd.f4) rfl (.tmp (v := .bool false) rfl .nil) ?_
               exact ⟨_, _, (.refl _), WH.refl _, _, F_some hF, rfl⟩
              ·
               refine WP_skip (C_reg (mdl []) (S_bin rfl rfl (ev_add ..) (S_m (v := .int _ _) rfl (S_nil (ih228 (IntKind.wrap .i64 (a224 + (1 : Int))) _ hF ?_)))))
               have hwo : WO [(g21, .room)] [(g21, .room)] := (.keep .nil)
               exact ⟨(hwo.spec ok).1, WS.mk' (.cons (.refl _) (.cons (.refl _) (.cons (.refl _) (.cons (.refl _) (.cons (.refl _) .nil))))) ok hwo⟩
           ·
            refine S_all1 ok rfl ty_zc_40 ?_
            intro i295 hi295 ok
            refine S_nil ?_
            refine A_seq [] [] 4 #[true, true, true, true, true, true, true, true, true, false, false, true, false, false] rfl rfl (by kernel_rfl) (by kernel_rfl) ?_
            refine S_nil ?_
            refine A_two 9 10 _ _ #[true, true, true, true, true, true, true, true, true, true, false, true, false, false] #[true, true, true, true, true, true, true, true, true, false, true, true, false, false] (by kernel_rfl) rfl rfl (by kernel_rfl) (by kernel_rfl) ?_ ?_
            ·
             refine S_call (F_lecternlaw03_doc_ok _ hF fun x296 _ hF => (S_nil ?_)) (.cons (.refl _) (.nil))
             refine A_seq [10, 12, 13] [_, _, _] 0 #[true, true, true, true, true, true, true, true, true, true, true, true, true, true] rfl rfl (by kernel_rfl) (by kernel_rfl) ?_
             refine S_all1 ok rfl ty_zc_40 ?_
             intro i297 hi297 ok
             refine S_st (j := 0) (cs' := [.int .i64 x232.Kind, .int .i64 x232.At, .str x232.Name, .sl 2 (List.map c_T_scan_Pair x232.Pairs) 0, .str x232.Text, .int .i64 x232.Refs]) ok rfl rfl rfl hi297 rfl ty_sz_40 rfl rfl (fun ok => S_st (j := 1) (cs' := [.int .i64 x296.Kind, .int .i64 x296.At, .str x296.Name, .sl 2 (List.map c_T_scan_Pair x296.Pairs) 0, .str x296.Text, .int .i64 x296.Refs]) ok rfl rfl rfl hi295 rfl ty_sz_40 rfl rfl (fun ok => S_nil ?_))
             refine A_end (by kernel_rfl) ?_
             refine C_seq (C_reg (mdl []) (S_faP rfl ty_fd_40_5 ty_sz_3 (S_st (j := 0) (cs' := [.int .i64 x232.Kind, .int .i64 x232.At, .str x232.Name, .sl 2 (List.map c_T_scan_Pair x232.Pairs) 0, .str x232.Text, .int .i64 (0 : Int)]) ok rfl rfl rfl hi297 rfl ty_sz_3 rfl rfl (fun ok => S_faP rfl ty_fd_40_5 ty_sz_3 (S_st (j := 1) (cs' := [.int .i64 x296.Kind, .int .i64 x296.At, .str x296.Name, .sl 2 (List.map c_T_scan_Pair x296.Pairs) 0, .str x296.Text, .int .i64 (0 : Int)]) ok rfl rfl rfl hi295 rfl ty_sz_3 rfl rfl (fun ok => S_nil ?_))))))
             refine C_join hF (fun (a303 : Bool) s' => OK h [(g21, .room)] ∧ WS s' ⟨mkSl 100 [(5, .sl 6 (List.map c_T_scan_Token x3.1) 0), (10, .sl 1 (List.map c_i64 a20) g21), (13, .sl 6 (List.map c_T_scan_Token x38.1) 0), (67, .int .i64 (x3.1.length : Int)), (68, .int .i64 a224), (98, .bool a303)], Hp h [(g21, .room)]⟩) (fun J304 hF => ?_) ?_
             ·
              refine C_drw (mdl [(92, 3), (96, 3)]) (by kernel_rfl) (by kernel_rfl) ?_
              refine S_ldP (j := 0) ok rfl rfl rfl hi297 (p_agg (vs := c_T_lecternref03_Token (⟨x232.Kind, x232.At, x232.Name, x232.Pairs, x232.Text, (0 : Int)⟩ : T_lecternref03_Token)) ty_ag_40 ty_sz_40 rfl rfl) (S_ldP (j := 1) ok rfl rfl rfl hi295 (p_agg (vs := c_T_lecternref03_Token (⟨x296.Kind, x296.At, x296.Name, x296.Pairs, x296.Text, (0 : Int)⟩ : T_lecternref03_Token)) ty_ag_40 ty_sz_40 rfl rfl) (S_call (F_lecternref03_Same_ok _ hF fun x305 _ hF => (S_un rfl (ev_not _) (S_m (v := .bool _) rfl ?_))) (.cons (.refl _) (.cons (.refl _) (.nil)))))
              refine S_if (b := (!x305)) hF (fun hb306 hF => ?_) (fun hb307 hF => ?_)
              ·
               refine S_off rfl rfl hb306 (S_offD (S_off rfl rfl hb306 (S_offD (S_off rfl rfl hb306 (S_offD (S_off rfl rfl hb306 (S_offD (S_off rfl rfl hb306 (S_offD (S_off rfl rfl hb306 (S_offD (S_off rfl rfl hb306 (S_offD (S_off rfl rfl hb306 (S_offD (S_off rfl rfl hb306 (S_offD (S_off rfl rfl hb306 (S_offD (S_pickT (v := .bool _) rfl hb306 rfl (S_nil ?_)))))))))))))))))))))
               have hwo : WO [(i297, .cells [.int .i64 x232.Kind, .int .i64 x232.At, .str x232.Name, .sl 2 (List.map c_T_scan_Pair x232.Pairs) 0, .str x232.Text, .int .i64 (0 : Int)]), (i295, .cells [.int .i64 x296.Kind, .int .i64 x296.At, .str x296.Name, .sl 2 (List.map c_T_scan_Pair x296.Pairs) 0, .str x296.Text, .int .i64 (0 : Int)]), (g21, .room)] [(g21, .room)] := (.drop (.drop (.keep .nil)))
               exact ⟨true, hF, (hwo.spec ok).1, WS.mk' (.cons (.refl _) (.cons (.refl _) (.cons (.refl _) (.cons (.refl _) (.cons (.refl _) (.cons (.refl _) .nil)))))) ok hwo⟩
              ·
               refine S_on rfl rfl hb307 (S_in (S_m (v := .sl _ _ _) rfl (S_nil (S_on rfl rfl hb307 (S_in (S_m (v := .int _ _) rfl (S_nil (S_on rfl rfl hb307 (S_in (S_ix rfl rfl ty_sl_24 ty_sz_30 hF (fun x308 _ hF => S_nil (S_on rfl rfl hb307 (S_in (S_faQ rfl ty_fd_30_1 ty_sz_3 rfl (S_nil (S_on rfl rfl hb307 (S_in (S_ldQ rfl (p_one ty_ag_3 ty_sz_3 rfl) (S_nil (S_on rfl rfl hb307 (S_in (S_m (v := .sl _ _ _) rfl (S_nil (S_on rfl rfl hb307 (S_in (S_m (v := .int _ _) rfl (S_nil (S_on rfl rfl hb307 (S_in (S_ix rfl rfl ty_sl_35 ty_sz_3 hF (fun x309 _ hF => S_nil (S_on rfl rfl hb307 (S_in (S_ldQ rfl (p_one ty_ag_3 ty_sz_3 rfl) (S_nil (S_on rfl rfl hb307 (S_in (S_bin rfl rfl (ev_neq ..) (S_nil ?_)))))))))))))))))))))))))))))))))))))))
               refine S_pickF (v := .bool _) rfl hb307 rfl (S_nil ?_)
               have hwo : WO [(i297, .cells [.int .i64 x232.Kind, .int .i64 x232.At, .str x232.Name, .sl 2 (List.map c_T_scan_Pair x232.Pairs) 0, .str x232.Text, .int .i64 (0 : Int)]), (i295, .cells [.int .i64 x296.Kind, .int .i64 x296.At, .str x296.Name, .sl 2 (List.map c_T_scan_Pair x296.Pairs) 0, .str x296.Text, .int .i64 (0 : Int)]), (g21, .room)] [(g21, .room)] := (.drop (.drop (.keep .nil)))
               exact ⟨(x308.At != x309), hF, (hwo.spec ok).1, WS.mk' (.cons (.refl _) (.cons (.refl _) (.cons (.refl _) (.cons (.refl _) (.cons (.refl _) (.cons (.refl _) .nil)))))) ok hwo⟩
             ·
              rintro a303 s' hF ⟨ok, hws⟩
              refine WP_ws hws ?_
              clear hws s'
              refine C_if (b := a303) rfl hF (fun hb310 hF => ?_) (fun hb310 hF => ?_)
              ·
               refine C_seq (C_reg (mdl []) (S_a (v := .bool _) rfl (S_nil (WP_ret ?_))))
               replace hF := hG226 _ (F_some hF)
               repeat (first | with_reducible refine Exit.sel_ret ?_ | with_reducible refine Exit.blk_ret ?_ | with_reducible refine Exit.jmp_ret ?_)
               refine C_ret (fn := Tryd.f4) rfl (.tmp (v := .bool false) rfl .nil) ?_
               exact ⟨_, _, (.refl _), WH.refl _, _, F_some hF, rfl⟩
              ·
               refine WP_skip (C_reg (mdl []) (S_bin rfl rfl (ev_add ..) (S_m (v := .int _ _) rfl (S_nil (ih228 (IntKind.wrap .i64 (a224 + (1 : Int))) _ hF ?_)))))
               have hwo : WO [(g21, .room)] [(g21, .room)] := (.keep .nil)
               exact ⟨(hwo.spec ok).1, WS.mk' (.cons (.refl _) (.cons (.refl _) (.cons (.refl _) (.cons (.refl _) (.cons (.refl _) .nil))))) ok hwo⟩
            ·
             refine S_all1 ok rfl ty_zc_40 ?_
             intro i311 hi311 ok
             refine S_nil ?_
             refine A_seq [9, 12, 13] [_, _, _] 0 #[true, true, true, true, true, true, true, true, true, true, true, true, true, true] rfl rfl (by kernel_rfl) (by kernel_rfl) ?_
             refine S_call (F_lecternlaw03_doc_ok _ hF fun x312 _ hF => (S_st (j := 0) (cs' := [.int .i64 x232.Kind, .int .i64 x232.At, .str x232.Name, .sl 2 (List.map c_T_scan_Pair x232.Pairs) 0, .str x232.Text, .int .i64 x232.Refs]) ok rfl rfl rfl hi311 rfl ty_sz_40 rfl rfl (fun ok => S_st (j := 1) (cs' := [.int .i64 x312.Kind, .int .i64 x312.At, .str x312.Name, .sl 2 (List.map c_T_scan_Pair x312.Pairs) 0, .str x312.Text, .int .i64 x312.Refs]) ok rfl rfl rfl hi295 rfl ty_sz_40 rfl rfl (fun ok => S_nil ?_)))) (.cons (.refl _) (.nil))
             refine A_end (by kernel_rfl) ?_
             refine C_seq (C_reg (mdl []) (S_faP rfl ty_fd_40_5 ty_sz_3 (S_st (j := 0) (cs' := [.int .i64 x232.Kind, .int .i64 x232.At, .str x232.Name, .sl 2 (List.map c_T_scan_Pair x232.Pairs) 0, .str x232.Text, .int .i64 (0 : Int)]) ok rfl rfl rfl hi311 rfl ty_sz_3 rfl rfl (fun ok => S_faP rfl ty_fd_40_5 ty_sz_3 (S_st (j := 1) (cs' := [.int .i64 x312.Kind, .int .i64 x312.At, .str x312.Name, .sl 2 (List.map c_T_scan_Pair x312.Pairs) 0, .str x312.Text, .int .i64 (0 : Int)]) ok rfl rfl rfl hi295 rfl ty_sz_3 rfl rfl (fun ok => S_nil ?_))))))
             refine C_join hF (fun (a318 : Bool) s' => OK h [(g21, .room)] ∧ WS s' ⟨mkSl 100 [(5, .sl 6 (List.map c_T_scan_Token x3.1) 0), (10, .sl 1 (List.map c_i64 a20) g21), (13, .sl 6 (List.map c_T_scan_Token x38.1) 0), (67, .int .i64 (x3.1.length : Int)), (68, .int .i64 a224), (98, .bool a318)], Hp h [(g21, .room)]⟩) (fun J319 hF => ?_) ?_
             ·
              refine C_drw (mdl [(92, 3), (96, 3)]) (by kernel_rfl) (by kernel_rfl) ?_
              refine S_ldP (j := 0) ok rfl rfl rfl hi311 (p_agg (vs := c_T_lecternref03_Token (⟨x232.Kind, x232.At, x232.Name, x232.Pairs, x232.Text, (0 : Int)⟩ : T_lecternref03_Token)) ty_ag_40 ty_sz_40 rfl rfl) (S_ldP (j := 1) ok rfl rfl rfl hi295 (p_agg (vs := c_T_lecternref03_Token (⟨x312.Kind, x312.At, x312.Name, x312.Pairs, x312.Text, (0 : Int)⟩ : T_lecternref03_Token)) ty_ag_40 ty_sz_40 rfl rfl) (S_call (F_lecternref03_Same_ok _ hF fun x320 _ hF => (S_un rfl (ev_not _) (S_m (v := .bool _) rfl ?_))) (.cons (.refl _) (.cons (.refl _) (.nil)))))
              refine S_if (b := (!x320)) hF (fun hb321 hF => ?_) (fun hb322 hF => ?_)
              ·
               refine S_off rfl rfl hb321 (S_offD (S_off rfl rfl hb321 (S_offD (S_off rfl rfl hb321 (S_offD (S_off rfl rfl hb321 (S_offD (S_off rfl rfl hb321 (S_offD (S_off rfl rfl hb321 (S_offD (S_off rfl rfl hb321 (S_offD (S_off rfl rfl hb321 (S_offD (S_off rfl rfl hb321 (S_offD (S_off rfl rfl hb321 (S_offD (S_pickT (v := .bool _) rfl hb321 rfl (S_nil ?_)))))))))))))))))))))
               have hwo : WO [(i311, .cells [.int .i64 x232.Kind, .int .i64 x232.At, .str x232.Name, .sl 2 (List.map c_T_scan_Pair x232.Pairs) 0, .str x232.Text, .int .i64 (0 : Int)]), (i295, .cells [.int .i64 x312.Kind, .int .i64 x312.At, .str x312.Name, .sl 2 (List.map c_T_scan_Pair x312.Pairs) 0, .str x312.Text, .int .i64 (0 : Int)]), (g21, .room)] [(g21, .room)] := (.drop (.drop (.keep .nil)))
               exact ⟨true, hF, (hwo.spec ok).1, WS.mk' (.cons (.refl _) (.cons (.refl _) (.cons (.refl _) (.cons (.refl _) (.cons (.refl _) (.cons (.refl _) .nil)))))) ok hwo⟩
              ·
               refine S_on rfl rfl hb322 (S_in (S_m (v := .sl _ _ _) rfl (S_nil (S_on rfl rfl hb322 (S_in (S_m (v := .int _ _) rfl (S_nil (S_on rfl rfl hb322 (S_in (S_ix rfl rfl ty_sl_24 ty_sz_30 hF (fun x323 _ hF => S_nil (S_on rfl rfl hb322 (S_in (S_faQ rfl ty_fd_30_1 ty_sz_3 rfl (S_nil (S_on rfl rfl hb322 (S_in (S_ldQ rfl (p_one ty_ag_3 ty_sz_3 rfl) (S_nil (S_on rfl rfl hb322 (S_in (S_m (v := .sl _ _ _) rfl (S_nil (S_on rfl rfl hb322 (S_in (S_m (v := .int _ _) rfl (S_nil (S_on rfl rfl hb322 (S_in (S_ix rfl rfl ty_sl_35 ty_sz_3 hF (fun x324 _ hF => S_nil (S_on rfl rfl hb322 (S_in (S_ldQ rfl (p_one ty_ag_3 ty_sz_3 rfl) (S_nil (S_on rfl rfl hb322 (S_in (S_bin rfl rfl (ev_neq ..) (S_nil ?_)))))))))))))))))))))))))))))))))))))))
               refine S_pickF (v := .bool _) rfl hb322 rfl (S_nil ?_)
               have hwo : WO [(i311, .cells [.int .i64 x232.Kind, .int .i64 x232.At, .str x232.Name, .sl 2 (List.map c_T_scan_Pair x232.Pairs) 0, .str x232.Text, .int .i64 (0 : Int)]), (i295, .cells [.int .i64 x312.Kind, .int .i64 x312.At, .str x312.Name, .sl 2 (List.map c_T_scan_Pair x312.Pairs) 0, .str x312.Text, .int .i64 (0 : Int)]), (g21, .room)] [(g21, .room)] := (.drop (.drop (.keep .nil)))
               exact ⟨(x323.At != x324), hF, (hwo.spec ok).1, WS.mk' (.cons (.refl _) (.cons (.refl _) (.cons (.refl _) (.cons (.refl _) (.cons (.refl _) (.cons (.refl _) .nil)))))) ok hwo⟩
             ·
              rintro a318 s' hF ⟨ok, hws⟩
              refine WP_ws hws ?_
              clear hws s'
              refine C_if (b := a318) rfl hF (fun hb325 hF => ?_) (fun hb325 hF => ?_)
              ·
               refine C_seq (C_reg (mdl []) (S_a (v := .bool _) rfl (S_nil (WP_ret ?_))))
               replace hF := hG226 _ (F_some hF)
               repeat (first | with_reducible refine Exit.sel_ret ?_ | with_reducible refine Exit.blk_ret ?_ | with_reducible refine Exit.jmp_ret ?_)
               refine C_ret (fn := Tryd.f4) rfl (.tmp (v := .bool false) rfl .nil) ?_
               exact ⟨_, _, (.refl _), WH.refl _, _, F_some hF, rfl⟩
              ·
               refine WP_skip (C_reg (mdl []) (S_bin rfl rfl (ev_add ..) (S_m (v := .int _ _) rfl (S_nil (ih228 (IntKind.wrap .i64 (a224 + (1 : Int))) _ hF ?_)))))
               have hwo : WO [(g21, .room)] [(g21, .room)] := (.keep .nil)
               exact ⟨(hwo.spec ok).1, WS.mk' (.cons (.refl _) (.cons (.refl _) (.cons (.refl _) (.cons (.refl _) (.cons (.refl _) .nil))))) ok hwo⟩
          ·
           refine S_all1 ok rfl ty_zc_40 ?_
           intro i326 hi326 ok
           refine S_nil ?_
           refine A_seq [] [] 5 #[true, true, true, true, false, true, true, true, true, false, true, false, false, false] rfl rfl (by kernel_rfl) (by kernel_rfl) ?_
           refine S_nil ?_
           refine A_two 4 11 _ _ #[true, true, true, true, true, true, true, true, true, false, true, false, false, false] #[true, true, true, true, false, true, true, true, true, false, true, true, false, false] (by kernel_rfl) rfl rfl (by kernel_rfl) (by kernel_rfl) ?_ ?_
           ·
            refine S_call (F_lecternlaw03_doc_ok _ hF fun x327 _ hF => (S_nil ?_)) (.cons (.refl _) (.nil))
            refine A_seq [] [] 4 #[true, true, true, true, true, true, true, true, true, false, true, false, false, false] rfl rfl (by kernel_rfl) (by kernel_rfl) ?_
            refine S_nil ?_
            refine A_two 9 11 _ _ #[true, true, true, true, true, true, true, true, true, true, true, false, false, false] #[true, true, true, true, true, true, true, true, true, false, true, true, false, false] (by kernel_rfl) rfl rfl (by kernel_rfl) (by kernel_rfl) ?_ ?_
            ·
             refine S_call (F_lecternlaw03_doc_ok _ hF fun x328 _ hF => (S_nil ?_)) (.cons (.refl _) (.nil))
             refine A_seq [11, 12, 13] [_, _, _] 0 #[true, true, true, true, true, true, true, true, true, true, true, true, true, true] rfl rfl (by kernel_rfl) (by kernel_rfl) ?_
             refine S_all1 ok rfl ty_zc_40 ?_
             intro i329 hi329 ok
             refine S_st (j := 1) (cs' := [.int .i64 x327.Kind, .int .i64 x327.At, .str x327.Name, .sl 2 (List.map c_T_scan_Pair x327.Pairs) 0, .str x327.Text, .int .i64 x327.Refs]) ok rfl rfl rfl hi326 rfl ty_sz_40 rfl rfl (fun ok => S_st (j := 0) (cs' := [.int .i64 x328.Kind, .int .i64 x328.At, .str x328.Name, .sl 2 (List.map c_T_scan_Pair x328.Pairs) 0, .str x328.Text, .int .i64 x328.Refs]) ok rfl rfl rfl hi329 rfl ty_sz_40 rfl rfl (fun ok => S_nil ?_))
             refine A_end (by kernel_rfl) ?_
             refine C_seq (C_reg (mdl []) (S_faP rfl ty_fd_40_5 ty_sz_3 (S_st (j := 1) (cs' := [.int .i64 x327.Kind, .int .i64 x327.At, .str x327.Name, .sl 2 (List.map c_T_scan_Pair x327.Pairs) 0, .str x327.Text, .int .i64 (0 : Int)]) ok rfl rfl rfl hi326 rfl ty_sz_3 rfl rfl (fun ok => S_faP rfl ty_fd_40_5 ty_sz_3 (S_st (j := 0) (cs' := [.int .i64 x328.Kind, .int .i64 x328.At, .str x328.Name, .sl 2 (List.map c_T_scan_Pair x328.Pairs) 0, .str x328.Text, .int .i64 (0 : Int)]) ok rfl rfl rfl hi329 rfl ty_sz_3 rfl rfl (fun ok => S_nil ?_))))))
             refine C_join hF (fun (a335 : Bool) s' => OK h [(g21, .room)] ∧ WS s' ⟨mkSl 100 [(5, .sl 6 (List.map c_T_scan_Token x3.1) 0), (10, .sl 1 (List.map c_i64 a20) g21), (13, .sl 6 (List.map c_T_scan_Token x38.1) 0), (67, .int .i64 (x3.1.length : Int)), (68, .int .i64 a224), (98, .bool a335)], Hp h [(g21, .room)]⟩) (fun J336 hF => ?_) ?_
             ·
              refine C_drw (mdl [(92, 3), (96, 3)]) (by kernel_rfl) (by kernel_rfl) ?_
              refine S_ldP (j := 1) ok rfl rfl rfl hi326 (p_agg (vs := c_T_lecternref03_Token (⟨x327.Kind, x327.At, x327.Name, x327.Pairs, x327.Text, (0 : Int)⟩ : T_lecternref03_Token)) ty_ag_40 ty_sz_40 rfl rfl) (S_ldP (j := 0) ok rfl rfl rfl hi329 (p_agg (vs := c_T_lecternref03_Token (⟨x328.Kind, x328.At, x328.Name, x328.Pairs, x328.Text, (0 : Int)⟩ : T_lecternref03_Token)) ty_ag_40 ty_sz_40 rfl rfl) (S_call (F_lecternref03_Same_ok _ hF fun x337 _ hF => (S_un rfl (ev_not _) (S_m (v := .bool _) rfl ?_))) (.cons (.refl _) (.cons (.refl _) (.nil)))))
              refine S_if (b := (!x337)) hF (fun hb338 hF => ?_) (fun hb339 hF => ?_)
              ·
               refine S_off rfl rfl hb338 (S_offD (S_off rfl rfl hb338 (S_offD (S_off rfl rfl hb338 (S_offD (S_off rfl rfl hb338 (S_offD (S_off rfl rfl hb338 (S_offD (S_off rfl rfl hb338 (S_offD (S_off rfl rfl hb338 (S_offD (S_off rfl rfl hb338 (S_offD (S_off rfl rfl hb338 (S_offD (S_off rfl rfl hb338 (S_offD (S_pickT (v := .bool _) rfl hb338 rfl (S_nil ?_)))))))))))))))))))))
               have hwo : WO [(i329, .cells [.int .i64 x328.Kind, .int .i64 x328.At, .str x328.Name, .sl 2 (List.map c_T_scan_Pair x328.Pairs) 0, .str x328.Text, .int .i64 (0 : Int)]), (i326, .cells [.int .i64 x327.Kind, .int .i64 x327.At, .str x327.Name, .sl 2 (List.map c_T_scan_Pair x327.Pairs) 0, .str x327.Text, .int .i64 (0 : Int)]), (g21, .room)] [(g21, .room)] := (.drop (.drop (.keep .nil)))
               exact ⟨true, hF, (hwo.spec ok).1, WS.mk' (.cons (.refl _) (.cons (.refl _) (.cons (.refl _) (.cons (.refl _) (.cons (.refl _) (.cons (.refl _) .nil)))))) ok hwo⟩
              ·
               refine S_on rfl rfl hb339 (S_in (S_m (v := .sl _ _ _) rfl (S_nil (S_on rfl rfl hb339 (S_in (S_m (v := .int _ _) rfl (S_nil (S_on rfl rfl hb339 (S_in (S_ix rfl rfl ty_sl_24 ty_sz_30 hF (fun x340 _ hF => S_nil (S_on rfl rfl hb339 (S_in (S_faQ rfl ty_fd_30_1 ty_sz_3 rfl (S_nil (S_on rfl rfl hb339 (S_in (S_ldQ rfl (p_one ty_ag_3 ty_sz_3 rfl) (S_nil (S_on rfl rfl hb339 (S_in (S_m (v := .sl _ _ _) rfl (S_nil (S_on rfl rfl hb339 (S_in (S_m (v := .int _ _) rfl (S_nil (S_on rfl rfl hb339 (S_in (S_ix rfl rfl ty_sl_35 ty_sz_3 hF (fun x341 _ hF => S_nil (S_on rfl rfl hb339 (S_in (S_ldQ rfl (p_one ty_ag_3 ty_sz_3 rfl) (S_nil (S_on rfl rfl hb339 (S_in (S_bin rfl rfl (ev_neq ..) (S_nil ?_)))))))))))))))))))))))))))))))))))))))
               refine S_pickF (v := .bool _) rfl hb339 rfl (S_nil ?_)
               have hwo : WO [(i329, .cells [.int .i64 x328.Kind, .int .i64 x328.At, .str x328.Name, .sl 2 (List.map c_T_scan_Pair x328.Pairs) 0, .str x328.Text, .int .i64 (0 : Int)]), (i326, .cells [.int .i64 x327.Kind, .int .i64 x327.At, .str x327.Name, .sl 2 (List.map c_T_scan_Pair x327.Pairs) 0, .str x327.Text, .int .i64 (0 : Int)]), (g21, .room)] [(g21, .room)] := (.drop (.drop (.keep .nil)))
               exact ⟨(x340.At != x341), hF, (hwo.spec ok).1, WS.mk' (.cons (.refl _) (.cons (.refl _) (.cons (.refl _) (.cons (.refl _) (.cons (.refl _) (.cons (.refl _) .nil)))))) ok hwo⟩
             ·
              rintro a335 s' hF ⟨ok, hws⟩
              refine WP_ws hws ?_
              clear hws s'
              refine C_if (b := a335) rfl hF (fun hb342 hF => ?_) (fun hb342 hF => ?_)
              ·
               refine C_seq (C_reg (mdl []) (S_a (v := .bool _) rfl (S_nil (WP_ret ?_))))
               replace hF := hG226 _ (F_some hF)
               repeat (first | with_reducible refine Exit.sel_ret ?_ | with_reducible refine Exit.blk_ret ?_ | with_reducible refine Exit.jmp_ret ?_)
               refine C_ret (fn := Tryd.f4) rfl (.tmp (v := .bool false) rfl .nil) ?_
               exact ⟨_, _, (.refl _), WH.refl _, _, F_some hF, rfl⟩
              ·
               refine WP_skip (C_reg (mdl []) (S_bin rfl rfl (ev_add ..) (S_m (v := .int _ _) rfl (S_nil (ih228 (IntKind.wrap .i64 (a224 + (1 : Int))) _ hF ?_)))))
               have hwo : WO [(g21, .room)] [(g21, .room)] := (.keep .nil)
               exact ⟨(hwo.spec ok).1, WS.mk' (.cons (.refl _) (.cons (.refl _) (.cons (.refl _) (.cons (.refl _) (.cons (.refl _) .nil))))) ok hwo⟩
            ·
             refine S_all1 ok rfl ty_zc_40 ?_
             intro i343 hi343 ok
             refine S_nil ?_
             refine A_seq [9, 12, 13] [_, _, _] 0 #[true, true, true, true, true, true, true, true, true, true, true, true, true, true] rfl rfl (by kernel_rfl) (by kernel_rfl) ?_
             refine S_call (F_lecternlaw03_doc_ok _ hF fun x344 _ hF => (S_st (j := 1) (cs' := [.int .i64 x327.Kind, .int .i64 x327.At, .str x327.Name, .sl 2 (List.map c_T_scan_Pair x327.Pairs) 0, .str x327.Text, .int .i64 x327.Refs]) ok rfl rfl rfl hi326 rfl ty_sz_40 rfl rfl (fun ok => S_st (j := 0) (cs' := [.int .i64 x344.Kind, .int .i64 x344.At, .str x344.Name, .sl 2 (List.map c_T_scan_Pair x344.Pairs) 0, .str x344.Text, .int .i64 x344.Refs]) ok rfl rfl rfl hi343 rfl ty_sz_40 rfl rfl (fun ok => S_nil ?_)))) (.cons (.refl _) (.nil))
             refine A_end (by kernel_rfl) ?_
             refine C_seq (C_reg (mdl []) (S_faP rfl ty_fd_40_5 ty_sz_3 (S_st (j := 1) (cs' := [.int .i64 x327.Kind, .int .i64 x327.At, .str x327.Name, .sl 2 (List.map c_T_scan_Pair x327.Pairs) 0, .str x327.Text, .int .i64 (0 : Int)]) ok rfl rfl rfl hi326 rfl ty_sz_3 rfl rfl (fun ok => S_faP rfl ty_fd_40_5 ty_sz_3 (S_st (j := 0) (cs' := [.int .i64 x344.Kind, .int .i64 x344.At, .str x344.Name, .sl 2 (List.map c_T_scan_Pair x344.Pairs) 0, .str x344.Text, .int .i64 (0 : Int)]) ok rfl rfl rfl hi343 rfl ty_sz_3 rfl rfl (fun ok => S_nil ?_))))))
             refine C_join hF (fun (a350 : Bool) s' => OK h [(g21, .room)] ∧ WS s' ⟨mkSl 100 [(5, .sl 6 (List.map c_T_scan_Token x3.1) 0), (10, .sl 1 (List.map c_i64 a20) g21), (13, .sl 6 (List.map c_T_scan_Token x38.1) 0), (67, .int .i64 (x3.1.length : Int)), (68, .int .i64 a224), (98, .bool a350)], Hp h [(g21, .room)]⟩) (fun J351 hF => ?_) ?_
             ·
              refine C_drw (mdl [(92, 3), (96, 3)]) (by kernel_rfl) (by kernel_rfl) ?_
              refine S_ldP (j := 1) ok rfl rfl rfl hi326 (p_agg (vs := c_T_lecternref03_Token (⟨x327.Kind, x327.At, x327.Name, x327.Pairs, x327.Text, (0 : Int)⟩ : T_lecternref03_Token)) ty_ag_40 ty_sz_40 rfl rfl) (S_ldP (j := 0) ok rfl rfl rfl hi343 (p_agg (vs := c_T_lecternref03_Token (⟨x344.Kind, x344.At, x344.Name, x344.Pairs, x344.Text, (0 : Int)⟩ : T_lecternref03_Token)) ty_ag_40 ty_sz_40 rfl rfl) (S_call (F_lecternref03_Same_ok _ hF fun x352 _ hF => (S_un rfl (ev_not _) (S_m (v := .bool _) rfl ?_))) (.cons (.refl _) (.cons (.refl _) (.nil)))))
              refine S_if (b := (!x352)) hF (fun hb353 hF => ?_) (fun hb354 hF => ?_)
              ·
               refine S_off rfl rfl hb353 (S_offD (S_off rfl rfl hb353 (S_offD (S_off rfl rfl hb353 (S_offD (S_off rfl rfl hb353 (S_offD (S_off rfl rfl hb353 (S_offD (S_off rfl rfl hb353 (S_offD (S_off rfl rfl hb353 (S_offD (S_off rfl rfl hb353 (S_offD (S_off rfl rfl hb353 (S_offD (S_off rfl rfl hb353 (S_offD (S_pickT (v := .bool _) rfl hb353 rfl (S_nil ?_)))))))))))))))))))))
               have hwo : WO [(i343, .cells [.int .i64 x344.Kind, .int .i64 x344.At, .str x344.Name, .sl 2 (List.map c_T_scan_Pair x344.Pairs) 0, .str x344.Text, .int .i64 (0 : Int)]), (i326, .cells [.int .i64 x327.Kind, .int .i64 x327.At, .str x327.Name, .sl 2 (List.map c_T_scan_Pair x327.Pairs) 0, .str x327.Text, .int .i64 (0 : Int)]), (g21, .room)] [(g21, .room)] := (.drop (.drop (.keep .nil)))
               exact ⟨true, hF, (hwo.spec ok).1, WS.mk' (.cons (.refl _) (.cons (.refl _) (.cons (.refl _) (.cons (.refl _) (.cons (.refl _) (.cons (.refl _) .nil)))))) ok hwo⟩
              ·
               refine S_on rfl rfl hb354 (S_in (S_m (v := .sl _ _ _) rfl (S_nil (S_on rfl rfl hb354 (S_in (S_m (v := .int _ _) rfl (S_nil (S_on rfl rfl hb354 (S_in (S_ix rfl rfl ty_sl_24 ty_sz_30 hF (fun x355 _ hF => S_nil (S_on rfl rfl hb354 (S_in (S_faQ rfl ty_fd_30_1 ty_sz_3 rfl (S_nil (S_on rfl rfl hb354 (S_in (S_ldQ rfl (p_one ty_ag_3 ty_sz_3 rfl) (S_nil (S_on rfl rfl hb354 (S_in (S_m (v := .sl _ _ _) rfl (S_nil (S_on rfl rfl hb354 (S_in (S_m (v := .int _ _) rfl (S_nil (S_on rfl rfl hb354 (S_in (S_ix rfl rfl ty_sl_35 ty_sz_3 hF (fun x356 _ hF => S_nil (S_on rfl rfl hb354 (S_in (S_ldQ rfl (p_one ty_ag_3 ty_sz_3 rfl) (S_nil (S_on rfl rfl hb354 (S_in (S_bin rfl rfl (ev_neq ..) (S_nil ?_)))))))))))))))))))))))))))))))))))))))
               refine S_pickF (v := .bool _) rfl hb354 rfl (S_nil ?_)
               have hwo : WO [(i343, .cells [.int .i64 x344.Kind, .int .i64 x344.At, .str x344.Name, .sl 2 (List.map c_T_scan_Pair x344.Pairs) 0, .str x344.Text, .int .i64 (0 : Int)]), (i326, .cells [.int .i64 x327.Kind, .int .i64 x327.At, .str x327.Name, .sl 2 (List.map c_T_scan_Pair x327.Pairs) 0, .str x327.Text, .int .i64 (0 : Int)]), (g21, .room)] [(g21, .room)] := (.drop (.drop (.keep .nil)))
               exact ⟨(x355.At != x356), hF, (hwo.spec ok).1, WS.mk' (.cons (.refl _) (.cons (.refl _) (.cons (.refl _) (.cons (.refl _) (.cons (.refl _) (.cons (.refl _) .nil)))))) ok hwo⟩
             ·
              rintro a350 s' hF ⟨ok, hws⟩
              refine WP_ws hws ?_
              clear hws s'
              refine C_if (b := a350) rfl hF (fun hb357 hF => ?_) (fun hb357 hF => ?_)
              ·
               refine C_seq (C_reg (mdl []) (S_a (v := .bool _) rfl (S_nil (WP_ret ?_))))
               replace hF := hG226 _ (F_some hF)
               repeat (first | with_reducible refine Exit.sel_ret ?_ | with_reducible refine Exit.blk_ret ?_ | with_reducible refine Exit.jmp_ret ?_)
               refine C_ret (fn := Tryd.f4) rfl (.tmp (v := .bool false) rfl .nil) ?_
               exact ⟨_, _, (.refl _), WH.refl _, _, F_some hF, rfl⟩
              ·
               refine WP_skip (C_reg (mdl []) (S_bin rfl rfl (ev_add ..) (S_m (v := .int _ _) rfl (S_nil (ih228 (IntKind.wrap .i64 (a224 + (1 : Int))) _ hF ?_)))))
               have hwo : WO [(g21, .room)] [(g21, .room)] := (.keep .nil)
               exact ⟨(hwo.spec ok).1, WS.mk' (.cons (.refl _) (.cons (.refl _) (.cons (.refl _) (.cons (.refl _) (.cons (.refl _) .nil))))) ok hwo⟩
           ·
            refine S_all1 ok rfl ty_zc_40 ?_
            intro i358 hi358 ok
            refine S_nil ?_
            refine A_seq [4, 9, 12, 13] [_, _, _, _] 0 #[true, true, true, true, true, true, true, true, true, true, true, true, true, true] rfl rfl (by kernel_rfl) (by kernel_rfl) ?_
            refine S_call (F_lecternlaw03_doc_ok _ hF fun x359 _ hF => (S_call (F_lecternlaw03_doc_ok _ hF fun x360 _ hF => (S_st (j := 1) (cs' := [.int .i64 x359.Kind, .int .i64 x359.At, .str x359.Name, .sl 2 (List.map c_T_scan_Pair x359.Pairs) 0, .str x359.Text, .int .i64 x359.Refs]) ok rfl rfl rfl hi326 rfl ty_sz_40 rfl rfl (fun ok => S_st (j := 0) (cs' := [.int .i64 x360.Kind, .int .i64 x360.At, .str x360.Name, .sl 2 (List.map c_T_scan_Pair x360.Pairs) 0, .str x360.Text, .int .i64 x360.Refs]) ok rfl rfl rfl hi358 rfl ty_sz_40 rfl rfl (fun ok => S_nil ?_)))) (.cons (.refl _) (.nil)))) (.cons (.refl _) (.nil))
            refine A_end (by kernel_rfl) ?_
            refine C_seq (C_reg (mdl []) (S_faP rfl ty_fd_40_5 ty_sz_3 (S_st (j := 1) (cs' := [.int .i64 x359.Kind, .int .i64 x359.At, .str x359.Name, .sl 2 (List.map c_T_scan_Pair x359.Pairs) 0, .str x359.Text, .int .i64 (0 : Int)]) ok rfl rfl rfl hi326 rfl ty_sz_3 rfl rfl (fun ok => S_faP rfl ty_fd_40_5 ty_sz_3 (S_st (j := 0) (cs' := [.int .i64 x360.Kind, .int .i64 x360.At, .str x360.Name, .sl 2 (List.map c_T_scan_Pair x360.Pairs) 0, .str x360.Text, .int .i64 (0 : Int)]) ok rfl rfl rfl hi358 rfl ty_sz_3 rfl rfl (fun ok => S_nil ?_))))))
            refine C_join hF (fun (a366 : Bool) s' => OK h [(g21, .room)] ∧ WS s' ⟨mkSl 100 [(5, .sl 6 (List.map c_T_scan_Token x3.1) 0), (10, .sl 1 (List.map c_i64 a20) g21), (13, .sl 6 (List.map c_T_scan_Token x38.1) 0), (67, .int .i64 (x3.1.length : Int)), (68, .int .i64 a224), (98, .bool a366)], Hp h [(g21, .room)]⟩) (fun J367 hF => ?_) ?_
            ·
             refine C_drw (mdl [(92, 3), (96, 3)]) (by kernel_rfl) (by kernel_rfl) ?_
             refine S_ldP (j := 1) ok rfl rfl rfl hi326 (p_agg (vs := c_T_lecternref03_Token (⟨x359.Kind, x359.At, x359.Name, x359.Pairs, x359.Text, (0 : Int)⟩ : T_lecternref03_Token)) ty_ag_40 ty_sz_40 rfl rfl) (S_ldP (j := 0) ok rfl rfl rfl hi358 (p_agg (vs := c_T_lecternref03_Token (⟨x360.Kind, x360.At, x360.Name, x360.Pairs, x360.Text, (0 : Int)⟩ : T_lecternref03_Token)) ty_ag_40 ty_sz_40 rfl rfl) (S_call (F_lecternref03_Same_ok _ hF fun x368 _ hF => (S_un rfl (ev_not _) (S_m (v := .bool _) rfl ?_))) (.cons (.refl _) (.cons (.refl _) (.nil)))))
             refine S_if (b := (!x368)) hF (fun hb369 hF => ?_) (fun hb370 hF => ?_)
             ·
              refine S_off rfl rfl hb369 (S_offD (S_off rfl rfl hb369 (S_offD (S_off rfl rfl hb369 (S_offD (S_off rfl rfl hb369 (S_offD (S_off rfl rfl hb369 (S_offD (S_off rfl rfl hb369 (S_offD (S_off rfl rfl hb369 (S_offD (S_off rfl rfl hb369 (S_offD (S_off rfl rfl hb369 (S_offD (S_off rfl rfl hb369 (S_offD (S_pickT (v := .bool _) rfl hb369 rfl (S_nil ?_)))))))))))))))))))))
              have hwo : WO [(i358, .cells [.int .i64 x360.Kind, .int .i64 x360.At, .str x360.Name, .sl 2 (List.map c_T_scan_Pair x360.Pairs) 0, .str x360.Text, .int .i64 (0 : Int)]), (i326, .cells [.int .i64 x359.Kind, .int .i64 x359.At, .str x359.Name, .sl 2 (List.map c_T_scan_Pair x359.Pairs) 0, .str x359.Text, .int .i64 (0 : Int)]), (g21, .room)] [(g21, .room)] := (.drop (.drop (.keep .nil)))
              exact ⟨true, hF, (hwo.spec ok).1, WS.mk' (.cons (.refl _) (.cons (.refl _) (.cons (.refl _) (.cons (.refl _) (.cons (.refl _) (.cons (.refl _) .nil)))))) ok hwo⟩
             ·
              refine S_on rfl rfl hb370 (S_in (S_m (v := .sl _ _ _) rfl (S_nil (S_on rfl rfl hb370 (S_in (S_m (v := .int _ _) rfl (S_nil (S_on rfl rfl hb370 (S_in (S_ix rfl rfl ty_sl_24 ty_sz_30 hF (fun x371 _ hF => S_nil (S_on rfl rfl hb370 (S_in (S_faQ rfl ty_fd_30_1 ty_sz_3 rfl (S_nil (S_on rfl rfl hb370 (S_in (S_ldQ rfl (p_one ty_ag_3 ty_sz_3 rfl) (S_nil (S_on rfl rfl hb370 (S_in (S_m (v := .sl _ _ _) rfl (S_nil (S_on rfl rfl hb370 (S_in (S_m (v := .int _ _) rfl (S_nil (S_on rfl rfl hb370 (S_in (S_ix rfl rfl ty_sl_35 ty_sz_3 hF (fun x372 _ hF => S_nil (S_on rfl rfl hb370 (S_in (S_ldQ rfl (p_one ty_ag_3 ty_sz_3 rfl) (S_nil (S_on rfl rfl hb370 (S_in (S_bin rfl rfl (ev_neq ..) (S_nil ?_)))))))))))))))))))))))))))))))))))))))
              refine S_pickF (v := .bool _) rfl hb370 rfl (S_nil ?_)
              have hwo : WO [(i358, .cells [.int .i64 x360.Kind, .int .i64 x360.At, .str x360.Name, .sl 2 (List.map c_T_scan_Pair x360.Pairs) 0, .str x360.Text, .int .i64 (0 : Int)]), (i326, .cells [.int .i64 x359.Kind, .int .i64 x359.At, .str x359.Name, .sl 2 (List.map c_T_scan_Pair x359.Pairs) 0, .str x359.Text, .int .i64 (0 : Int)]), (g21, .room)] [(g21, .room)] := (.drop (.drop (.keep .nil)))
              exact ⟨(x371.At != x372), hF, (hwo.spec ok).1, WS.mk' (.cons (.refl _) (.cons (.refl _) (.cons (.refl _) (.cons (.refl _) (.cons (.refl _) (.cons (.refl _) .nil)))))) ok hwo⟩
            ·
             rintro a366 s' hF ⟨ok, hws⟩
             refine WP_ws hws ?_
             clear hws s'
             refine C_if (b := a366) rfl hF (fun hb373 hF => ?_) (fun hb373 hF => ?_)
             ·
              refine C_seq (C_reg (mdl []) (S_a (v := .bool _) rfl (S_nil (WP_ret ?_))))
              replace hF := hG226 _ (F_some hF)
              repeat (first | with_reducible refine Exit.sel_ret ?_ | with_reducible refine Exit.blk_ret ?_ | with_reducible refine Exit.jmp_ret ?_)
              refine C_ret (fn := Tryd.f4) rfl (.tmp (v := .bool false) rfl .nil) ?_
              exact ⟨_, _, (.refl _), WH.refl _, _, F_some hF, rfl⟩
             ·
              refine WP_skip (C_reg (mdl []) (S_bin rfl rfl (ev_add ..) (S_m (v := .int _ _) rfl (S_nil (ih228 (IntKind.wrap .i64 (a224 + (1 : Int))) _ hF ?_)))))
              have hwo : WO [(g21, .room)] [(g21, .room)] := (.keep .nil)
              exact ⟨(hwo.spec ok).1, WS.mk' (.cons (.refl _) (.cons (.refl _) (.cons (.refl _) (.cons (.refl _) (.cons (.refl _) .nil))))) ok hwo⟩
          ·
           refine S_all1 ok rfl ty_zc_40 ?_
           intro i374 hi374 ok
           refine S_nil ?_
           refine A_seq [] [] 5 #[true, true, true, true, false, true, true, true, true, false, false, true, false, false] rfl rfl (by kernel_rfl) (by kernel_rfl) ?_
           refine S_nil ?_
           refine A_two 4 10 _ _ #[true, true, true, true, true, true, true, true, true, false, false, true, false, false] #[true, true, true, true, false, true, true, true, true, false, true, true, false, false] (by kernel_rfl) rfl rfl (by kernel_rfl) (by kernel_rfl) ?_ ?_
           ·
            refine S_call (F_lecternlaw03_doc_ok _ hF fun x375 _ hF => (S_nil ?_)) (.cons (.refl _) (.nil))
            refine A_seq [] [] 4 #[true, true, true, true, true, true, true, true, true, false, false, true, false, false] rfl rfl (by kernel_rfl) (by kernel_rfl) ?_
            refine S_nil ?_
            refine A_two 9 10 _ _ #[true, true, true, true, true, true, true, true, true, true, false, true, false, false] #[true, true, true, true, true, true, true, true, true, false, true, true, false, false] (by kernel_rfl) rfl rfl (by kernel_rfl) (by kernel_rfl) ?_ ?_
            ·
             refine S_call (F_lecternlaw03_doc_ok _ hF fun x376 _ hF => (S_nil ?_)) (.cons (.refl _) (.nil))
             refine A_seq [10, 12, 13] [_, _, _] 0 #[true, true, true, true, true, true, true, true, true, true, true, true, true, true] rfl rfl (by kernel_rfl) (by kernel_rfl) ?_
             refine S_all1 ok rfl ty_zc_40 ?_
             intro i377 hi377 ok
             refine S_st (j := 0) (cs' := [.int .i64 x375.Kind, .int .i64 x375.At, .str x375.Name, .sl 2 (List.map c_T_scan_Pair x375.Pairs) 0, .str x375.Text, .int .i64 x375.Refs]) ok rfl rfl rfl hi377 rfl ty_sz_40 rfl rfl (fun ok => S_st (j := 1) (cs' := [.int .i64 x376.Kind, .int .i64 x376.At, .str x376.Name, .sl 2 (List.map c_T_scan_Pair x376.Pairs) 0, .str x376.Text, .int .i64 x376.Refs]) ok rfl rfl rfl hi374 rfl ty_sz_40 rfl rfl (fun ok => S_nil ?_))
             refine A_end (by kernel_rfl) ?_
             refine C_seq (C_reg (mdl []) (S_faP rfl ty_fd_40_5 ty_sz_3 (S_st (j := 0) (cs' := [.int .i64 x375.Kind, .int .i64 x375.At, .str x375.Name, .sl 2 (List.map c_T_scan_Pair x375.Pairs) 0, .str x375.Text, .int .i64 (0 : Int)]) ok rfl rfl rfl hi377 rfl ty_sz_3 rfl rfl (fun ok => S_faP rfl ty_fd_40_5 ty_sz_3 (S_st (j := 1) (cs' := [.int .i64 x376.Kind, .int .i64 x376.At, .str x376.Name, .sl 2 (List.map c_T_scan_Pair x376.Pairs) 0, .str x376.Text, .int .i64 (0 : Int)]) ok rfl rfl rfl hi374 rfl ty_sz_3 rfl rfl (fun ok => S_nil ?_))))))
             refine C_join hF (fun (a383 : Bool) s' => OK h [(g21, .room)] ∧ WS s' ⟨mkSl 100 [(5, .sl 6 (List.map c_T_scan_Token x3.1) 0), (10, .sl 1 (List.map c_i64 a20) g21), (13, .sl 6 (List.map c_T_scan_Token x38.1) 0), (67, .int .i64 (x3.1.length : Int)), (68, .int .i64 a224), (98, .bool a383)], Hp h [(g21, .room)]⟩) (fun J384 hF => ?_) ?_
             ·
              refine C_drw (mdl [(92, 3), (96, 3)]) (by kernel_rfl) (by kernel_rfl) ?_
              refine S_ldP (j := 0) ok rfl rfl rfl hi377 (p_agg (vs := c_T_lecternref03_Token (⟨x375.Kind, x375.At, x375.Name, x375.Pairs, x375.Text, (0 : Int)⟩ : T_lecternref03_Token)) ty_ag_40 ty_sz_40 rfl rfl) (S_ldP (j := 1) ok rfl rfl rfl hi374 (p_agg (vs := c_T_lecternref03_Token (⟨x376.Kind, x376.At, x376.Name, x376.Pairs, x376.Text, (0 : Int)⟩ : T_lecternref03_Token)) ty_ag_40 ty_sz_40 rfl rfl) (S_call (F_lecternref03_Same_ok _ hF fun x385 _ hF => (S_un rfl (ev_not _) (S_m (v := .bool _) rfl ?_))) (.cons (.refl _) (.cons (.refl _) (.nil)))))
              refine S_if (b := (!x385)) hF (fun hb386 hF => ?_) (fun hb387 hF => ?_)
              ·
               refine S_off rfl rfl hb386 (S_offD (S_off rfl rfl hb386 (S_offD (S_off rfl rfl hb386 (S_offD (S_off rfl rfl hb386 (S_offD (S_off rfl rfl hb386 (S_offD (S_off rfl rfl hb386 (S_offD (S_off rfl rfl hb386 (S_offD (S_off rfl rfl hb386 (S_offD (S_off rfl rfl hb386 (S_offD (S_off rfl rfl hb386 (S_offD (S_pickT (v := .bool _) rfl hb386 rfl (S_nil ?_)))))))))))))))))))))
               have hwo : WO [(i377, .cells [.int .i64 x375.Kind, .int .i64 x375.At, .str x375.Name, .sl 2 (List.map c_T_scan_Pair x375.Pairs) 0, .str x375.Text, .int .i64 (0 : Int)]), (i374, .cells [.int .i64 x376.Kind, .int .i64 x376.At, .str x376.Name, .sl 2 (List.map c_T_scan_Pair x376.Pairs) 0, .str x376.Text, .int .i64 (0 : Int)]), (g21, .room)] [(g21, .room)] := (.drop (.drop (.keep .nil)))
               exact ⟨true, hF, (hwo.spec ok).1, WS.mk' (.cons (.refl _) (.cons (.refl _) (.cons (.refl _) (.cons (.refl _) (.cons (.refl _) (.cons (.refl _) .nil)))))) ok hwo⟩
              ·
               refine S_on rfl rfl hb387 (S_in (S_m (v := .sl _ _ _) rfl (S_nil (S_on rfl rfl hb387 (S_in (S_m (v := .int _ _) rfl (S_nil (S_on rfl rfl hb387 (S_in (S_ix rfl rfl ty_sl_24 ty_sz_30 hF (fun x388 _ hF => S_nil (S_on rfl rfl hb387 (S_in (S_faQ rfl ty_fd_30_1 ty_sz_3 rfl (S_nil (S_on rfl rfl hb387 (S_in (S_ldQ rfl (p_one ty_ag_3 ty_sz_3 rfl) (S_nil (S_on rfl rfl hb387 (S_in (S_m (v := .sl _ _ _) rfl (S_nil (S_on rfl rfl hb387 (S_in (S_m (v := .int _ _) rfl (S_nil (S_on rfl rfl hb387 (S_in (S_ix rfl rfl ty_sl_35 ty_sz_3 hF (fun x389 _ hF => S_nil (S_on rfl rfl hb387 (S_in (S_ldQ rfl (p_one ty_ag_3 ty_sz_3 rfl) (S_nil (S_on rfl rfl hb387 (S_in (S_bin rfl rfl (ev_neq ..) (S_nil ?_)))))))))))))))))))))))))))))))))))))))
               refine S_pickF (v := .bool _) rfl hb387 rfl (S_nil ?_)
               have hwo : WO [(i377, .cells [.int .i64 x375.Kind, .int .i64 x375.At, .str x375.Name, .sl 2 (List.map c_T_scan_Pair x375.Pairs) 0, .str x375.Text, .int .i64 (0 : Int)]), (i374, .cells [.int .i64 x376.Kind, .int .i64 x376.At, .str x376.Name, .sl 2 (List.map c_T_scan_Pair x376.Pairs) 0, .str x376.Text, .int .i64 (0 : Int)]), (g21, .room)] [(g21, .room)] := (.drop (.drop (.keep .nil)))
               exact ⟨(x388.At != x389), hF, (hwo.spec ok).1, WS.mk' (.cons (.refl _) (.cons (.refl _) (.cons (.refl _) (.cons (.refl _) (.cons (.refl _) (.cons (.refl _) .nil)))))) ok hwo⟩
             ·
              rintro a383 s' hF ⟨ok, hws⟩
              refine WP_ws hws ?_
              clear hws s'
              refine C_if (b := a383) rfl hF (fun hb390 hF => ?_) (fun hb390 hF => ?_)
              ·
               refine C_seq (C_reg (mdl []) (S_a (v := .bool _) rfl (S_nil (WP_ret ?_))))
               replace hF := hG226 _ (F_some hF)
               repeat (first | with_reducible refine Exit.sel_ret ?_ | with_reducible refine Exit.blk_ret ?_ | with_reducible refine Exit.jmp_ret ?_)
               refine C_ret (fn := Tryd.f4) rfl (.tmp (v := .bool false) rfl .nil) ?_
               exact ⟨_, _, (.refl _), WH.refl _, _, F_some hF, rfl⟩
              ·
               refine WP_skip (C_reg (mdl []) (S_bin rfl rfl (ev_add ..) (S_m (v := .int _ _) rfl (S_nil (ih228 (IntKind.wrap .i64 (a224 + (1 : Int))) _ hF ?_)))))
               have hwo : WO [(g21, .room)] [(g21, .room)] := (.keep .nil)
               exact ⟨(hwo.spec ok).1, WS.mk' (.cons (.refl _) (.cons (.refl _) (.cons (.refl _) (.cons (.refl _) (.cons (.refl _) .nil))))) ok hwo⟩
            ·
             refine S_all1 ok rfl ty_zc_40 ?_
             intro i391 hi391 ok
             refine S_nil ?_
             refine A_seq [9, 12, 13] [_, _, _] 0 #[true, true, true, true, true, true, true, true, true, true, true, true, true, true] rfl rfl (by kernel_rfl) (by kernel_rfl) ?_
             refine S_call (F_lecternlaw03_doc_ok _ hF fun x392 _ hF => (S_st (j := 0) (cs' := [.int .i64 x375.Kind, .int .i64 x375.At, .str x375.Name, .sl 2 (List.map c_T_scan_Pair x375.Pairs) 0, .str x375.Text, .int .i64 x375.Refs]) ok rfl rfl rfl hi391 rfl ty_sz_40 rfl rfl (fun ok => S_st (j := 1) (cs' := [.int .i64 x392.Kind, .int .i64 x392.At, .str x392.Name, .sl 2 (List.map c_T_scan_Pair x392.Pairs) 0, .str x392.Text, .int .i64 x392.Refs]) ok rfl rfl rfl hi374 rfl ty_sz_40 rfl rfl (fun ok => S_nil ?_)))) (.cons (.refl _) (.nil))
             refine A_end (by kernel_rfl) ?_
             refine C_seq (C_reg (mdl []) (S_faP rfl ty_fd_40_5 ty_sz_3 (S_st (j := 0) (cs' := [.int .i64 x375.Kind, .int .i64 x375.At, .str x375.Name, .sl 2 (List.map c_T_scan_Pair x375.Pairs) 0, .str x375.Text, .int .i64 (0 : Int)]) ok rfl rfl rfl hi391 rfl ty_sz_3 rfl rfl (fun ok => S_faP rfl ty_fd_40_5 ty_sz_3 (S_st (j := 1) (cs' := [.int .i64 x392.Kind, .int .i64 x392.At, .str x392.Name, .sl 2 (List.map c_T_scan_Pair x392.Pairs) 0, .str x392.Text, .int .i64 (0 : Int)]) ok rfl rfl rfl hi374 rfl ty_sz_3 rfl rfl (fun ok => S_nil ?_))))))
             refine C_join hF (fun (a398 : Bool) s' => OK h [(g21, .room)] ∧ WS s' ⟨mkSl 100 [(5, .sl 6 (List.map c_T_scan_Token x3.1) 0), (10, .sl 1 (List.map c_i64 a20) g21), (13, .sl 6 (List.map c_T_scan_Token x38.1) 0), (67, .int .i64 (x3.1.length : Int)), (68, .int .i64 a224), (98, .bool a398)], Hp h [(g21, .room)]⟩) (fun J399 hF => ?_) ?_
             ·
              refine C_drw (mdl [(92, 3), (96, 3)]) (by kernel_rfl) (by kernel_rfl) ?_
              refine S_ldP (j := 0) ok rfl rfl rfl hi391 (p_agg (vs := c_T_lecternref03_Token (⟨x375.Kind, x375.At, x375.Name, x375.Pairs, x375.Text, (0 : Int)⟩ : T_lecternref03_Token)) ty_ag_40 ty_sz_40 rfl rfl) (S_ldP (j := 1) ok rfl rfl rfl hi374 (p_agg (vs := c_T_lecternref03_Token (⟨x392.Kind, x392.At, x392.Name, x392.Pairs, x392.Text, (0 : Int)⟩ : T_lecternref03_Token)) ty_ag_40 ty_sz_40 rfl rfl) (S_call (F_lecternref03_Same_ok _ hF fun x400 _ hF => (S_un rfl (ev_not _) (S_m (v := .bool _) rfl ?_))) (.cons (.refl _) (.cons (.refl _) (.nil)))))
              refine S_if (b := (!x400)) hF (fun hb401 hF => ?_) (fun hb402 hF => ?_)
              ·
               refine S_off rfl rfl hb401 (S_offD (S_off rfl rfl hb401 (S_offD (S_off rfl rfl hb401 (S_offD (S_off rfl rfl hb401 (S_offD (S_off rfl rfl hb401 (S_offD (S_off rfl rfl hb401 (S_offD (S_off rfl rfl hb401 (S_offD (S_off rfl rfl hb401 (S_offD (S_off rfl rfl hb401 (S_offD (S_off rfl rfl hb401 (S_offD (S_pickT (v := .bool _) rfl hb401 rfl (S_nil ?_)))))))))))))))))))))
               have hwo : WO [(i391, .cells [.int .i64 x375.Kind, .int .i64 x375.At, .str x375.Name, .sl 2 (List.map c_T_scan_Pair x375.Pairs) 0, .str x375.Text, .int .i64 (0 : Int)]), (i374, .cells [.int .i64 x392.Kind, .int .i64 x392.At, .str x392.Name, .sl 2 (List.map c_T_scan_Pair x392.Pairs) 0, .str x392.Text, .int .i64 (0 : Int)]), (g21, .room)] [(g21, .room)] := (.drop (.drop (.keep .nil)))
               exact ⟨true, hF, (hwo.spec ok).1, WS.mk' (.cons (.refl _) (.cons (.refl _) (.cons (.refl _) (.cons (.refl _) (.cons (.refl _) (.cons (.refl _) .nil)))))) ok hwo⟩
              ·
               refine S_on rfl rfl hb402 (S_in (S_m (v := .sl _ _ _) rfl (S_nil (S_on rfl rfl hb402 (S_in (S_m (v := .int _ _) rfl (S_nil (S_on rfl rfl hb402 (S_in (S_ix rfl rfl ty_sl_24 ty_sz_30 hF (fun x403 _ hF => S_nil (S_on rfl rfl hb402 (S_in (S_faQ rfl ty_fd_30_1 ty_sz_3 rfl (S_nil (S_on rfl rfl hb402 (S_in (S_ldQ rfl (p_one ty_ag_3 ty_sz_3 rfl) (S_nil (S_on rfl rfl hb402 (S_in (S_m (v := .sl _ _ _) rfl (S_nil (S_on rfl rfl hb402 (S_in (S_m (v := .int _ _) rfl (S_nil (S_on rfl rfl hb402 (S_in (S_ix rfl rfl ty_sl_35 ty_sz_3 hF (fun x404 _ hF => S_nil (S_on rfl rfl hb402 (S_in (S_ldQ rfl (p_one ty_ag_3 ty_sz_3 rfl) (S_nil (S_on rfl rfl hb402 (S_in (S_bin rfl rfl (ev_neq ..) (S_nil ?_)))))))))))))))))))))))))))))))))))))))
               refine S_pickF (v := .bool _) rfl hb402 rfl (S_nil ?_)
               have hwo : WO [(i391, .cells [.int .i64 x375.Kind, .int .i64 x375.At, .str x375.Name, .sl 2 (List.map c_T_scan_Pair x375.Pairs) 0, .str x375.Text, .int .i64 (0 : Int)]), (i374, .cells [.int .i64 x392.Kind, .int .i64 x392.At, .str x392.Name, .sl 2 (List.map c_T_scan_Pair x392.Pairs) 0, .str x392.Text, .int .i64 (0 : Int)]), (g21, .room)] [(g21, .room)] := (.drop (.drop (.keep .nil)))
               exact ⟨(x403.At != x404), hF, (hwo.spec ok).1, WS.mk' (.cons (.refl _) (.cons (.refl _) (.cons (.refl _) (.cons (.refl _) (.cons (.refl _) (.cons (.refl _) .nil)))))) ok hwo⟩
             ·
              rintro a398 s' hF ⟨ok, hws⟩
              refine WP_ws hws ?_
              clear hws s'
              refine C_if (b := a398) rfl hF (fun hb405 hF => ?_) (fun hb405 hF => ?_)
              ·
               refine C_seq (C_reg (mdl []) (S_a (v := .bool _) rfl (S_nil (WP_ret ?_))))
               replace hF := hG226 _ (F_some hF)
               repeat (first | with_reducible refine Exit.sel_ret ?_ | with_reducible refine Exit.blk_ret ?_ | with_reducible refine Exit.jmp_ret ?_)
               refine C_ret (fn := Tryd.f4) rfl (.tmp (v := .bool false) rfl .nil) ?_
               exact ⟨_, _, (.refl _), WH.refl _, _, F_some hF, rfl⟩
              ·
               refine WP_skip (C_reg (mdl []) (S_bin rfl rfl (ev_add ..) (S_m (v := .int _ _) rfl (S_nil (ih228 (IntKind.wrap .i64 (a224 + (1 : Int))) _ hF ?_)))))
               have hwo : WO [(g21, .room)] [(g21, .room)] := (.keep .nil)
               exact ⟨(hwo.spec ok).1, WS.mk' (.cons (.refl _) (.cons (.refl _) (.cons (.refl _) (.cons (.refl _) (.cons (.refl _) .nil))))) ok hwo⟩
           ·
            refine S_all1 ok rfl ty_zc_40 ?_
            intro i406 hi406 ok
            refine S_nil ?_
            refine A_seq [4, 9, 12, 13] [_, _, _, _] 0 #[true, true, true, true, true, true, true, true, true, true, true, true, true, true] rfl rfl (by kernel_rfl) (by kernel_rfl) ?_
            refine S_call (F_lecternlaw03_doc_ok _ hF fun x407 _ hF => (S_call (F_lecternlaw03_doc_ok _ hF fun x408 _ hF => (S_st (j := 0) (cs' := [.int .i64 x407.Kind, .int .i64 x407.At, .str x407.Name, .sl 2 (List.map c_T_scan_Pair x407.Pairs) 0, .str x407.Text, .int .i64 x407.Refs]) ok rfl rfl rfl hi406 rfl ty_sz_40 rfl rfl (fun ok => S_st (j := 1) (cs' := [.int .i64 x408.Kind, .int .i64 x408.At, .str x408.Name, .sl 2 (List.map c_T_scan_Pair x408.Pairs) 0, .str x408.Text, .int .i64 x408.Refs]) ok rfl rfl rfl hi374 rfl ty_sz_40 rfl rfl (fun ok => S_nil ?_)))) (.cons (.refl _) (.nil)))) (.cons (.refl _) (.nil))
            refine A_end (by kernel_rfl) ?_
            refine C_seq (C_reg (mdl []) (S_faP rfl ty_fd_40_5 ty_sz_3 (S_st (j := 0) (cs' := [.int .i64 x407.Kind, .int .i64 x407.At, .str x407.Name, .sl 2 (List.map c_T_scan_Pair x407.Pairs) 0, .str x407.Text, .int .i64 (0 : Int)]) ok rfl rfl rfl hi406 rfl ty_sz_3 rfl rfl (fun ok => S_faP rfl ty_fd_40_5 ty_sz_3 (S_st (j := 1) (cs' := [.int .i64 x408.Kind, .int .i64 x408.At, .str x408.Name, .sl 2 (List.map c_T_scan_Pair x408.Pairs) 0, .str x408.Text, .int .i64 (0 : Int)]) ok rfl rfl rfl hi374 rfl ty_sz_3 rfl rfl (fun ok => S_nil ?_))))))
            refine C_join hF (fun (a414 : Bool) s' => OK h [(g21, .room)] ∧ WS s' ⟨mkSl 100 [(5, .sl 6 (List.map c_T_scan_Token x3.1) 0), (10, .sl 1 (List.map c_i64 a20) g21), (13, .sl 6 (List.map c_T_scan_Token x38.1) 0), (67, .int .i64 (x3.1.length : Int)), (68, .int .i64 a224), (98, .bool a414)], Hp h [(g21, .room)]⟩) (fun J415 hF => ?_) ?_
            ·
             refine C_drw (mdl [(92, 3), (96, 3)]) (by kernel_rfl) (by kernel_rfl) ?_
             refine S_ldP (j := 0) ok rfl rfl rfl hi406 (p_agg (vs := c_T_lecternref03_Token (⟨x407.Kind, x407.At, x407.Name, x407.Pairs, x407.Text, (0 : Int)⟩ : T_lecternref03_Token)) ty_ag_40 ty_sz_40 rfl rfl) (S_ldP (j := 1) ok rfl rfl rfl hi374 (p_agg (vs := c_T_lecternref03_Token (⟨x408.Kind, x408.At, x408.Name, x408.Pairs, x408.Text, (0 : Int)⟩ : T_lecternref03_Token)) ty_ag_40 ty_sz_40 rfl rfl) (S_call (F_lecternref03_Same_ok _ hF fun x416 _ hF => (S_un rfl (ev_not _) (S_m (v := .bool _) rfl ?_))) (.cons (.refl _) (.cons (.refl _) (.nil)))))
             refine S_if (b := (!x416)) hF (fun hb417 hF => ?_) (fun hb418 hF => ?_)
             ·
              refine S_off rfl rfl hb417 (S_offD (S_off rfl rfl hb417 (S_offD (S_off rfl rfl hb417 (S_offD (S_off rfl rfl hb417 (S_offD (S_off rfl rfl hb417 (S_offD (S_off rfl rfl hb417 (S_offD (S_off rfl rfl hb417 (S_offD (S_off rfl rfl hb417 (S_offD (S_off rfl rfl hb417 (S_offD (S_off rfl rfl hb417 (S_offD (S_pickT (v := .bool _) rfl hb417 rfl (S_nil ?_)))))))))))))))))))))
              have hwo : WO [(i406, .cells [.int .i64 x407.Kind, .int .i64 x407.At, .str x407.Name, .sl 2 (List.map c_T_scan_Pair x407.Pairs) 0, .str x407.Text, .int .i64 (0 : Int)]), (i374, .cells [.int .i64 x408.Kind, .int .i64 x408.At, .str x408.Name, .sl 2 (List.map c_T_scan_Pair x408.Pairs) 0, .str x408.Text, .int .i64 (0 : Int)]), (g21, .room)] [(g21, .room)] := (.drop (.drop (.keep .nil)))
              exact ⟨true, hF, (hwo.spec ok).1, WS.mk' (.cons (.refl _) (.cons (.refl _) (.cons (.refl _) (.cons (.refl _) (.cons (.refl _) (.cons (.refl _) .nil)))))) ok hwo⟩
             ·
              refine S_on rfl rfl hb418 (S_in (S_m (v := .sl _ _ _) rfl (S_nil (S_on rfl rfl hb418 (S_in (S_m (v := .int _ _) rfl (S_nil (S_on rfl rfl hb418 (S_in (S_ix rfl rfl ty_sl_24 ty_sz_30 hF (fun x419 _ hF => S_nil (S_on rfl rfl hb418 (S_in (S_faQ rfl ty_fd_30_1 ty_sz_3 rfl (S_nil (S_on rfl rfl hb418 (S_in (S_ldQ rfl (p_one ty_ag_3 ty_sz_3 rfl) (S_nil (S_on rfl rfl hb418 (S_in (S_m (v := .sl _ _ _) rfl (S_nil (S_on rfl rfl hb418 (S_in (S_m (v := .int _ _) rfl (S_nil (S_on rfl rfl hb418 (S_in (S_ix rfl rfl ty_sl_35 ty_sz_3 hF (fun x420 _ hF => S_nil (S_on rfl rfl hb418 (S_in (S_ldQ rfl (p_one ty_ag_3 ty_sz_3 rfl) (S_nil (S_on rfl rfl hb418 (S_in (S_bin rfl rfl (ev_neq ..) (S_nil ?_)))))))))))))))))))))))))))))))))))))))
              refine S_pickF (v := .bool _) rfl hb418 rfl (S_nil ?_)
              have hwo : WO [(i406, .cells [.int .i64 x407.Kind, .int .i64 x407.At, .str x407.Name, .sl 2 (List.map c_T_scan_Pair x407.Pairs) 0, .str x407.Text, .int .i64 (0 : Int)]), (i374, .cells [.int .i64 x408.Kind, .int .i64 x408.At, .str x408.Name, .sl 2 (List.map c_T_scan_Pair x408.Pairs) 0, .str x408.Text, .int .i64 (0 : Int)]), (g21, .room)] [(g21, .room)] := (.drop (.drop (.keep .nil)))
              exact ⟨(x419.At != x420), hF, (hwo.spec ok).1, WS.mk' (.cons (.refl _) (.cons (.refl _) (.cons (.refl _) (.cons (.refl _) (.cons (.refl _) (.cons (.refl _) .nil)))))) ok hwo⟩
            ·
             rintro a414 s' hF ⟨ok, hws⟩
             refine WP_ws hws ?_
             clear hws s'
             refine C_if (b := a414) rfl hF (fun hb421 hF => ?_) (fun hb421 hF => ?_)
             ·
              refine C_seq (C_reg (mdl []) (S_a (v := .bool _) rfl (S_nil (WP_ret ?_))))
              replace hF := hG226 _ (F_some hF)
              repeat (first | with_reducible refine Exit.sel_ret ?_ | with_reducible refine Exit.blk_ret ?_ | with_reducible refine Exit.jmp_ret ?_)
              refine C_ret (fn := Tryd.f4) rfl (.tmp (v := .bool false) rfl .nil) ?_
              exact ⟨_, _, (.refl _), WH.refl _, _, F_some hF, rfl⟩
             ·
              refine WP_skip (C_reg (mdl []) (S_bin rfl rfl (ev_add ..) (S_m (v := .int _ _) rfl (S_nil (ih228 (IntKind.wrap .i64 (a224 + (1 : Int))) _ hF ?_)))))
              have hwo : WO [(g21, .room)] [(g21, .room)] := (.keep .nil)
              exact ⟨(hwo.spec ok).1, WS.mk' (.cons (.refl _) (.cons (.refl _) (.cons (.refl _) (.cons (.refl _) (.cons (.refl _) .nil))))) ok hwo⟩
         ·
          refine WP_exit ?_
          simp only [Exit.sel, Exit.blk, Exit.jmp, if_true, if_false, reduceIte, Nat.reduceEqDiff, Nat.succ_ne_zero, Nat.zero_ne_one, Nat.one_ne_zero]
          replace hF := hG226 _ (F_some hF)
          have hwo : WO [(g21, .room)] [] := (.drop .nil)
          exact ⟨(), hF, (hwo.spec ok).1, WS.mk' .nil ok hwo⟩
       ·
        rintro ⟨⟩ s' hF ⟨ok, hws⟩
        refine WP_ws hws ?_
        clear hws s'
        refine C_seq (C_reg (mdl []) (S_a (v := .bool _) rfl (S_nil (WP_ret ?_))))
        repeat (first | with_reducible refine Exit.sel_ret ?_ | with_reducible refine Exit.blk_ret ?_ | with_reducible refine Exit.jmp_ret ?_)
        refine C_ret (fn := Tryd.f4) rfl (.tmp (v := .bool true) rfl .nil) ?_
        exact ⟨_, _, (.refl _), WH.refl _, _, F_some hF, rfl⟩
end Go.Proofs.YtfokkdofcekdbaaDoor
