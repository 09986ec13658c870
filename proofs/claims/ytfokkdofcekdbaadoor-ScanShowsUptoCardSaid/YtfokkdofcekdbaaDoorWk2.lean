/- The walks. No condition. -/
import Derived.Test.YtfokkdofcekdbaaDoorWk1
set_option linter.unusedVariables false
set_option linter.unusedSimpArgs false
set_option maxRecDepth 20000
set_option maxHeartbeats 8000000
namespace Go.Proofs.YtfokkdofcekdbaaDoor
theorem F_refer_read_w (p0 : List UInt8) (p1 : Bool) {G : (List UInt8) × Int × Int → Prop} (h : Heap) (hF : OptP (F_refer_read p0 p1) G) : CallsA Tryd.prog 68 [.sl 1 (List.map c_u8 p0) 0, .bool p1] h fun d h' => ∃ r, G r ∧ d = .tup [.str r.1, .int .i64 r.2.1, .int .i64 r.2.2] ∧ h' = h := by
 refine CallsA.ret (C_body Tryd.func68 rfl en_68 Tryd.ntmps68 rfl (fun ok => ?_))
 rw [F_refer_read] at hF
 refine C_seq (C_reg (mdl []) (S_a (v := .str ([] : List UInt8)) rfl (S_a (v := .int _ _) rfl (S_a (v := .int _ _) rfl (S_nil (C_seq (C_reg (mdl []) (S_a (v := .snil) rfl (S_ghost 7 1 ok rfl rfl ?_)))))))))
 intro r1 hr1 ok
 refine S_nil ?_
 refine C_join hF (fun (a52 : (List UInt8)) s' => ∃ g53 : Nat, g53 ≠ 0 ∧ OK h [(g53, .room)] ∧ WS s' ⟨mkSl 79 [(7, .sl 1 (List.map c_u8 a52) g53)], Hp h [(g53, .room)]⟩) (fun J54 hF => ?_) ?_
 ·
  refine C_seq (C_reg (mdl []) (S_a (v := .int _ _) rfl (S_nil (WP_block ?_))))
  refine C_loop (σ := (List UInt8) × Int) hF (fun (v : (List UInt8) × Int) s' => match v with | (a55, a57) => ∃ g56 : Nat, g56 ≠ 0 ∧ OK h [(g56, .room)] ∧ WS s' ⟨mkSl 79 [(0, .sl 1 (List.map c_u8 p0) 0), (1, .bool p1), (7, .sl 1 (List.map c_u8 a55) g56), (8, .int .i64 a57)], Hp h [(g56, .room)]⟩) ?_ ?_
  ·
   have hwo : WO [(r1, .room)] [(r1, .room)] := (.keep .nil)
   exact ⟨r1, hr1, (hwo.spec ok).1, WS.mk' (.cons (.refl _) (.cons (.refl _) (.cons (.refl _) (.cons (.refl _) .nil)))) ok hwo⟩
  ·
   rintro G58 hG59 rec60 ⟨a55, a57⟩ s' ih61 hF ⟨g56, hg56, ok, hws⟩
   refine WP_ws hws ?_
   clear hws s'
   rw [F_refer_read_l0] at hF
   refine C_seq (C_seq (C_reg (mdl []) (S_m (v := .int _ _) rfl (S_m (v := .sl _ _ _) rfl (S_lenL rfl ty_sl_22 (S_bin rfl rfl (ev_lss ..) (S_nil ?_)))))))
   refine C_if (b := (decide (a57 < (p0.length : Int)))) rfl hF (fun hb62 hF => ?_) (fun hb62 hF => ?_)
   ·
    refine WP_skip (WP_block (C_seq (C_reg (mdl []) (S_m (v := .sl _ _ _) rfl (S_m (v := .int _ _) rfl (S_call (F_char_Next_ok _ hF fun x63 _ hF => (S_m (v := .tup _) rfl (S_ext rfl rfl (S_ext rfl rfl (S_ext rfl rfl (S_a (v := .int _ _) rfl (S_a (v := .int _ _) rfl (S_a (v := .int _ _) rfl (S_nil ?_))))))))) (.cons (.refl _) (.cons (.refl _) (.nil)))))))))
    refine C_join hF (fun (v : Int × Int) s' => match v with | (a85, a86) => OK h [(g56, .room)] ∧ WS s' ⟨mkSl 79 [(0, .sl 1 (List.map c_u8 p0) 0), (1, .bool p1), (7, .sl 1 (List.map c_u8 a55) g56), (9, .int .i32 a85), (10, .int .i64 a86)], Hp h [(g56, .room)]⟩) (fun J87 hF => ?_) ?_
    ·
     refine WP_block (C_seq (C_reg (mdl []) (S_m (v := .int _ _) rfl (S_bin rfl rfl (ev_neq ..) (S_a (v := .bool _) rfl (S_nil ?_))))))
     refine C_if (b := (x63.2.2 != (0 : Int))) rfl hF (fun hb88 hF => ?_) (fun hb88 hF => ?_)
     ·
      refine C_seq (C_reg (mdl []) (S_m (v := .int _ _) rfl (S_m (v := .int _ _) rfl (S_a (v := .str ([] : List UInt8)) rfl (S_a (v := .int _ _) rfl (S_a (v := .int _ _) rfl (S_nil (WP_ret ?_))))))))
      replace hF := hG59 _ (F_some hF)
      repeat (first | with_reducible refine Exit.sel_ret ?_ | with_reducible refine Exit.blk_ret ?_ | with_reducible refine Exit.jmp_ret ?_)
      refine C_ret (fn := Tryd.f68) rfl (.tmp (v := .str ([] : List UInt8)) rfl (.tmp (v := .int .i64 a57) rfl (.tmp (v := .int .i64 x63.2.2) rfl .nil))) ?_
      exact ⟨_, _, (.tupC (.cons (.refl _) (.cons (.refl _) (.cons (.refl _) (.nil))))), ok.wh, _, F_some hF, rfl, rfl⟩
     ·
      refine C_seq (C_reg (mdl [(38, 5), (39, 5)]) (S_m (v := .int _ _) rfl (S_bin rfl rfl (ev_eql ..) (S_m (v := .bool _) rfl ?_))))
      refine S_twoJ 11 42 hF (fun J90 hb89 hF => ?_) (fun J90 hb89 hF => ?_) (fun v91 hF => ?_)
      ·
       refine S_off rfl rfl hb89 (S_offD (S_off rfl rfl hb89 (S_offD (S_off rfl rfl hb89 (S_offD (S_off2 rfl rfl (S_offD (S_off2 rfl rfl (S_offD (S_off2 rfl rfl (S_offD (S_off2 rfl rfl (S_offD (S_off2 rfl rfl (S_offD (S_off2 rfl rfl (S_offD (S_off rfl rfl hb89 (S_offD (S_pickT (v := .bool _) rfl hb89 rfl (S_nil ?_)))))))))))))))))))))
       refine ⟨_, hF, .hd (.refl _) ?_⟩
       repeat (first | with_reducible exact WS.refl _ | refine WS.add ?_ rfl | exact WS.refl _)
      ·
       refine S_on rfl rfl hb89 (S_in (S_m (v := .bool _) rfl (S_nil (S_on rfl rfl hb89 (S_in (S_un rfl (ev_not _) (S_nil (S_on rfl rfl hb89 (S_in (S_m (v := .bool _) rfl (S_nil ?_)))))))))))
       refine S_twoJ 7 41 hF (fun J93 hb92 hF => ?_) (fun J93 hb92 hF => ?_) (fun v94 hF => ?_)
       ·
        refine S_on rfl rfl hb92 (S_in (S_m (v := .sl _ _ _) rfl (S_nil (S_on rfl rfl hb92 (S_in (S_m (v := .int _ _) rfl (S_nil (S_on rfl rfl hb92 (S_in (S_slL rfl ty_sl_22 ty_sz_5 (bd_at rfl) bd_len hF (fun x95 _ hF => S_nil (S_on rfl rfl hb92 (S_in ?_)))))))))))))
        refine S_lit5 (cs := [.int .u8 93, .int .u8 93, .int .u8 62]) ok rfl ty_el_22 rfl (by kernel_rfl) ?_
        intro i96 hi96 ok
        refine S_nil (S_on rfl rfl hb92 (S_in ?_))
        refine S_cvt (v := .sl 1 (List.map c_u8 ([93, 93, 62] : List UInt8)) 0) (by kernel_rfl) 0 ok rfl rfl hi96 rfl ty_sl_22 ty_ki_5 rfl rfl (fun ok => ?_)
        refine S_nil (S_on rfl rfl hb92 (S_in (S_call (F_bytes_HasPrefix_ok _ hF fun x98 _ hF => (S_nil (S_on rfl rfl hb89 (S_in (S_pickT (v := .bool _) rfl hb92 rfl (S_nil (S_nil ?_))))))) (.cons (.refl _) (.cons (.refl _) (.nil))))))
        refine ⟨_, hF, .hd (.refl _) ?_⟩
        repeat (first | with_reducible exact WS.refl _ | refine WS.add ?_ rfl | exact WS.refl _)
       ·
        refine S_off rfl rfl hb92 (S_offD (S_off rfl rfl hb92 (S_offD (S_off rfl rfl hb92 (S_offD (S_off rfl rfl hb92 (S_offD (S_off rfl rfl hb92 (S_offD (S_off rfl rfl hb92 (S_offD (S_on rfl rfl hb89 (S_in (S_pickF (v := .bool _) rfl hb92 rfl (S_nil (S_nil ?_))))))))))))))))
        refine ⟨_, hF, .hd (.refl _) ?_⟩
        repeat (first | with_reducible exact WS.refl _ | refine WS.add ?_ rfl | exact WS.refl _)
       ·
        refine S_pickF (v := .bool _) rfl hb89 rfl (S_nil ?_)
        refine ⟨_, hF, .hd (.refl _) ?_⟩
        repeat (first | with_reducible exact WS.refl _ | refine WS.add ?_ rfl | exact WS.refl _)
      ·
       refine S_a (v := .bool _) rfl (S_nil ?_)
       refine C_if (b := v91) rfl hF (fun hb99 hF => ?_) (fun hb99 hF => ?_)
       ·
        refine C_seq (C_reg (mdl []) (S_m (v := .int _ _) rfl (S_a (v := .str ([] : List UInt8)) rfl (S_a (v := .int _ _) rfl (S_a (v := .int _ _) rfl (S_nil (WP_ret ?_)))))))
        replace hF := hG59 _ (F_some hF)
        repeat (first | with_reducible refine Exit.sel_ret ?_ | with_reducible refine Exit.blk_ret ?_ | with_reducible refine Exit.jmp_ret ?_)
        refine C_ret (fn := Tryd.f68) rfl (.tmp (v := .str ([] : List UInt8)) rfl (.tmp (v := .int .i64 a57) rfl (.tmp (v := .int .i64 (23 : Int)) rfl .nil))) ?_
        exact ⟨_, _, (.tupC (.cons (.refl _) (.cons (.refl _) (.cons (.refl _) (.nil))))), ok.wh, _, F_some hF, rfl, rfl⟩
       ·
        refine C_seq (C_reg (mdl []) (S_m (v := .int _ _) rfl (S_bin rfl rfl (ev_eql ..) (S_a (v := .bool _) rfl (S_nil ?_)))))
        refine C_if (b := (x63.1 == (38 : Int))) rfl hF (fun hb100 hF => ?_) (fun hb100 hF => ?_)
        ·
         refine C_seq (C_reg (mdl []) (S_m (v := .sl _ _ _) rfl (S_m (v := .int _ _) rfl (S_call (F_refer_Expand_ok _ hF fun x101 _ hF => (S_m (v := .tup _) rfl (S_ext rfl rfl (S_ext rfl rfl (S_ext rfl rfl (S_a (v := .int _ _) rfl (S_a (v := .int _ _) rfl (S_a (v := .int _ _) rfl (S_nil (C_seq (C_reg (mdl []) (S_m (v := .int _ _) rfl (S_bin rfl rfl (ev_neq ..) (S_nil ?_)))))))))))))) (.cons (.refl _) (.cons (.refl _) (.nil)))))))
         refine C_if (b := (x101.2.2 != (0 : Int))) rfl hF (fun hb102 hF => ?_) (fun hb102 hF => ?_)
         ·
          refine C_seq (C_reg (mdl []) (S_m (v := .int _ _) rfl (S_m (v := .int _ _) rfl (S_a (v := .str ([] : List UInt8)) rfl (S_a (v := .int _ _) rfl (S_a (v := .int _ _) rfl (S_nil (WP_ret ?_))))))))
          replace hF := hG59 _ (F_some hF)
          repeat (first | with_reducible refine Exit.sel_ret ?_ | with_reducible refine Exit.blk_ret ?_ | with_reducible refine Exit.jmp_ret ?_)
          refine C_ret (fn := Tryd.f68) rfl (.tmp (v := .str ([] : List UInt8)) rfl (.tmp (v := .int .i64 a57) rfl (.tmp (v := .int .i64 x101.2.2) rfl .nil))) ?_
          exact ⟨_, _, (.tupC (.cons (.refl _) (.cons (.refl _) (.cons (.refl _) (.nil))))), ok.wh, _, F_some hF, rfl, rfl⟩
         ·
          refine WP_skip ?_
          have hwo : WO [(g56, .room)] [(g56, .room)] := (.keep .nil)
          exact ⟨(x101.1, x101.2.1), hF, (hwo.spec ok).1, WS.mk' (.cons (.refl _) (.cons (.refl _) (.cons (.refl _) (.cons (.refl _) (.cons (.refl _) .nil))))) ok hwo⟩
        ·
         refine C_seq (C_reg (mdl []) (S_m (v := .bool _) rfl (S_m (v := .bool _) rfl ?_)))
         refine S_two (b := p1) 11 71 (.bool (p1 && (((x63.1 == (9 : Int)) || (x63.1 == (10 : Int))) || (x63.1 == (13 : Int))))) (fun hb103 => ?_) (fun hb103 => ?_) ?_
         ·
          refine S_on rfl rfl hb103 (S_in (S_m (v := .int _ _) rfl (S_nil (S_on rfl rfl hb103 (S_in (S_bin rfl rfl (ev_eql ..) (S_nil (S_on rfl rfl hb103 (S_in (S_m (v := .bool _) rfl (S_nil ?_)))))))))))
          refine S_two (b := (x63.1 == (9 : Int))) 3 66 (.bool ((x63.1 == (9 : Int)) || (x63.1 == (10 : Int)))) (fun hb106 => ?_) (fun hb106 => ?_) ?_
          ·
           refine S_off rfl rfl hb106 (S_offD (S_off rfl rfl hb106 (S_offD (S_on rfl rfl hb103 (S_in (S_pickT (v := .bool _) rfl hb106 rfl (S_nil (S_nil (.hd (or_t hb106) ?_)))))))))
           repeat (first | with_reducible exact WS.refl _ | refine WS.add ?_ rfl | exact WS.refl _)
          ·
           refine S_on rfl rfl hb106 (S_in (S_m (v := .int _ _) rfl (S_nil (S_on rfl rfl hb106 (S_in (S_bin rfl rfl (ev_eql ..) (S_nil (S_on rfl rfl hb103 (S_in (S_pickF (v := .bool _) rfl hb106 rfl (S_nil (S_nil (.hd (or_f hb106) ?_)))))))))))))
           repeat (first | with_reducible exact WS.refl _ | refine WS.add ?_ rfl | exact WS.refl _)
          refine S_on rfl rfl hb103 (S_in (S_m (v := .bool _) rfl (S_nil ?_)))
          refine S_two (b := ((x63.1 == (9 : Int)) || (x63.1 == (10 : Int)))) 3 70 (.bool (((x63.1 == (9 : Int)) || (x63.1 == (10 : Int))) || (x63.1 == (13 : Int)))) (fun hb107 => ?_) (fun hb107 => ?_) ?_
          ·
           refine S_off rfl rfl hb107 (S_offD (S_off rfl rfl hb107 (S_offD (S_on rfl rfl hb103 (S_in (S_pickT (v := .bool _) rfl hb107 rfl (S_nil (S_nil (.hd (or_t hb107) ?_)))))))))
           repeat (first | with_reducible exact WS.refl _ | refine WS.add ?_ rfl | exact WS.refl _)
          ·
           refine S_on rfl rfl hb107 (S_in (S_m (v := .int _ _) rfl (S_nil (S_on rfl rfl hb107 (S_in (S_bin rfl rfl (ev_eql ..) (S_nil (S_on rfl rfl hb103 (S_in (S_pickF (v := .bool _) rfl hb107 rfl (S_nil (S_nil (.hd (or_f hb107) ?_)))))))))))))
           repeat (first | with_reducible exact WS.refl _ | refine WS.add ?_ rfl | exact WS.refl _)
          refine S_pickT (v := .bool _) rfl hb103 rfl (S_nil (.hd (and_t hb103) ?_))
          repeat (first | with_reducible exact WS.refl _ | refine WS.add ?_ rfl | exact WS.refl _)
         ·
          refine S_off rfl rfl hb103 (S_offD (S_off rfl rfl hb103 (S_offD (S_off rfl rfl hb103 (S_offD (S_off2 rfl rfl (S_offD (S_off2 rfl rfl (S_offD (S_off rfl rfl hb103 (S_offD (S_off rfl rfl hb103 (S_offD (S_off2 rfl rfl (S_offD (S_off2 rfl rfl (S_offD (S_off rfl rfl hb103 (S_offD (S_pickF (v := .bool _) rfl hb103 rfl (S_nil (.hd (and_f hb103) ?_))))))))))))))))))))))
          repeat (first | with_reducible exact WS.refl _ | refine WS.add ?_ rfl | exact WS.refl _)
         refine S_a (v := .bool _) rfl (S_nil ?_)
         refine C_if (b := (p1 && (((x63.1 == (9 : Int)) || (x63.1 == (10 : Int))) || (x63.1 == (13 : Int))))) rfl hF (fun hb108 hF => ?_) (fun hb108 hF => ?_)
         ·
          refine C_reg (mdl []) (S_a (v := .int _ _) rfl (S_nil ?_))
          have hwo : WO [(g56, .room)] [(g56, .room)] := (.keep .nil)
          exact ⟨((32 : Int), x63.2.1), hF, (hwo.spec ok).1, WS.mk' (.cons (.refl _) (.cons (.refl _) (.cons (.refl _) (.cons (.refl _) (.cons (.refl _) .nil))))) ok hwo⟩
         ·
          refine WP_skip ?_
          have hwo : WO [(g56, .room)] [(g56, .room)] := (.keep .nil)
          exact ⟨(x63.1, x63.2.1), hF, (hwo.spec ok).1, WS.mk' (.cons (.refl _) (.cons (.refl _) (.cons (.refl _) (.cons (.refl _) (.cons (.refl _) .nil))))) ok hwo⟩
    ·
     rintro ⟨a85, a86⟩ s' hF ⟨ok, hws⟩
     refine WP_ws hws ?_
     clear hws s'
     refine C_seq (C_reg (mdl [(75, 2)]) (S_m (v := .sl _ _ _) rfl (S_m (v := .int _ _) rfl (S_conv rfl (e_cr ty_ki_9 ty_fa_9 ty_st_9 ty_un_21) (S_appS (j := 0) ok rfl rfl rfl rfl hg56 ty_el_22 ty_ni_9 hF ?_)))))
     intro r109 hr109 ok hF
     refine S_a (v := .sl _ _ _) rfl (S_nil (C_reg (mdl []) (S_m (v := .int _ _) rfl (S_a (v := .int _ _) rfl (S_nil (ih61 ((a55 ++ (Utf8.encode a85).data.toList), a86) _ hF ?_))))))
     have hwo : WO [(r109, .room)] [(r109, .room)] := (.keep .nil)
     exact ⟨r109, hr109, (hwo.spec ok).1, WS.mk' (.cons (.refl _) (.cons (.refl _) (.cons (.refl _) (.cons (.refl _) .nil)))) ok hwo⟩
   ·
    refine WP_exit ?_
    simp only [Exit.sel, Exit.blk, Exit.jmp, if_true, if_false, reduceIte, Nat.reduceEqDiff, Nat.succ_ne_zero, Nat.zero_ne_one, Nat.one_ne_zero]
    replace hF := hG59 _ (F_some hF)
    have hwo : WO [(g56, .room)] [(g56, .room)] := (.keep .nil)
    exact ⟨a55, hF, g56, hg56, (hwo.spec ok).1, WS.mk' (.cons (.refl _) .nil) ok hwo⟩
 ·
  rintro a52 s' hF ⟨g53, hg53, ok, hws⟩
  refine WP_ws hws ?_
  clear hws s'
  refine C_seq (C_reg (mdl []) (S_m (v := .sl _ _ _) rfl (S_one 77 (v := .sl 1 (List.map c_u8 a52) 0) (.zero _ _ _) (S_conv rfl (e_cbs ty_sl_22 ty_ki_5 ty_st_9) (S_a (v := .str _) rfl (S_a (v := .int _ _) rfl (S_a (v := .int _ _) rfl (S_nil (WP_ret ?_)))))))))
  repeat (first | with_reducible refine Exit.sel_ret ?_ | with_reducible refine Exit.blk_ret ?_ | with_reducible refine Exit.jmp_ret ?_)
  refine C_ret (fn := Tryd.f68) rfl (.tmp (v := .str a52) rfl (.tmp (v := .int .i64 (0 : Int)) rfl (.tmp (v := .int .i64 (0 : Int)) rfl .nil))) ?_
  exact ⟨_, _, (.tupC (.cons (.refl _) (.cons (.refl _) (.cons (.refl _) (.nil))))), ok.wh, _, F_some hF, rfl, rfl⟩
theorem F_refer_read_ok {β : Type} {f : (List UInt8) × Int × Int → Option β} {G : β → Prop} {R : D → Heap → Prop} {p0 : List UInt8} {p1 : Bool} (h : Heap) (hF : OptP ((F_refer_read p0 p1).bind f) G) (hk : ∀ r, F_refer_read p0 p1 = some r → OptP (f r) G → R (.tup [.str r.1, .int .i64 r.2.1, .int .i64 r.2.2]) h) : CallsA Tryd.prog 68 [.sl 1 (List.map c_u8 p0) 0, .bool p1] h R := by
 obtain ⟨r0, hr, hF⟩ := F_bind hF
 refine (F_refer_read_w (G := fun r => r = r0) p0 p1 h ⟨r0, hr, rfl⟩).mono ?_
 rintro _ _ ⟨r, rfl, rfl, rfl⟩
 exact hk _ hr hF
theorem F_refer_ReadValue_w (p0 : List UInt8) {G : (List UInt8) × Int × Int → Prop} (h : Heap) (hF : OptP (F_refer_ReadValue p0) G) : CallsA Tryd.prog 49 [.sl 1 (List.map c_u8 p0) 0] h fun d h' => ∃ r, G r ∧ d = .tup [.str r.1, .int .i64 r.2.1, .int .i64 r.2.2] ∧ h' = h := by
 refine CallsA.ret (C_body Tryd.func49 rfl en_49 Tryd.ntmps49 rfl (fun ok => ?_))
 rw [F_refer_ReadValue] at hF
 refine C_seq (C_reg (mdl []) (S_a (v := .str ([] : List UInt8)) rfl (S_a (v := .int _ _) rfl (S_a (v := .int _ _) rfl (S_nil (C_seq (C_reg (mdl []) (S_m (v := .sl _ _ _) rfl (S_call (F_refer_read_ok _ hF fun x1 _ hF => (S_ext rfl rfl (S_ext rfl rfl (S_ext rfl rfl (S_a (v := .str _) rfl (S_a (v := .int _ _) rfl (S_a (v := .int _ _) rfl (S_nil (WP_ret ?_))))))))) (.cons (.refl _) (.cons (.refl _) (.nil))))))))))))
 repeat (first | with_reducible refine Exit.sel_ret ?_ | with_reducible refine Exit.blk_ret ?_ | with_reducible refine Exit.jmp_ret ?_)
 refine C_ret (fn := Tryd.f49) rfl (.tmp (v := .str x1.1) rfl (.tmp (v := .int .i64 x1.2.1) rfl (.tmp (v := .int .i64 x1.2.2) rfl .nil))) ?_
 exact ⟨_, _, (.tupC (.cons (.refl _) (.cons (.refl _) (.cons (.refl _) (.nil))))), ok.wh, _, F_some hF, rfl, rfl⟩
theorem F_refer_ReadValue_ok {β : Type} {f : (List UInt8) × Int × Int → Option β} {G : β → Prop} {R : D → Heap → Prop} {p0 : List UInt8} (h : Heap) (hF : OptP ((F_refer_ReadValue p0).bind f) G) (hk : ∀ r, F_refer_ReadValue p0 = some r → OptP (f r) G → R (.tup [.str r.1, .int .i64 r.2.1, .int .i64 r.2.2]) h) : CallsA Tryd.prog 49 [.sl 1 (List.map c_u8 p0) 0] h R := by
 obtain ⟨r0, hr, hF⟩ := F_bind hF
 refine (F_refer_ReadValue_w (G := fun r => r = r0) p0 h ⟨r0, hr, rfl⟩).mono ?_
 rintro _ _ ⟨r, rfl, rfl, rfl⟩
 exact hk _ hr hF
theorem F_scan_scanner_tag_w (p0 : T_scan_scanner) (p1 : T_scan_Token) (q0 : Nat) (q1 : Nat) (b1_3 : Nat) {G : Int × T_scan_scanner × T_scan_Token → Prop} (h : Heap) (O : List (Nat × AObj)) (hq0 : q0 ≠ 0) (hq1 : q1 ≠ 0) (zb1_3 : b1_3 = 0 → p1.Pairs = []) (ok : OK h ((q0, .cells [.sl 1 (List.map c_u8 p0.b) 0, .int .i64 p0.at_]) :: (q1, .cells [.int .i64 p1.Kind, .int .i64 p1.At, .str p1.Name, mslO 2 b1_3 p1.Pairs, .str p1.Text, .int .i64 p1.Refs]) :: mo b1_3 c_T_scan_Pair p1.Pairs :: O)) (hF : OptP (F_scan_scanner_tag p0 p1) G) : CallsA Tryd.prog 35 [.ptr q0 0, .ptr q1 0] (Hp h ((q0, .cells [.sl 1 (List.map c_u8 p0.b) 0, .int .i64 p0.at_]) :: (q1, .cells [.int .i64 p1.Kind, .int .i64 p1.At, .str p1.Name, mslO 2 b1_3 p1.Pairs, .str p1.Text, .int .i64 p1.Refs]) :: mo b1_3 c_T_scan_Pair p1.Pairs :: O)) fun d h' => ∃ r, G r ∧ d = .int .i64 r.1 ∧ ∃ b1_3' : Nat, (b1_3' = 0 → r.2.2.Pairs = []) ∧ OK h ((q0, .cells [.sl 1 (List.map c_u8 r.2.1.b) 0, .int .i64 r.2.1.at_]) :: (q1, .cells [.int .i64 r.2.2.Kind, .int .i64 r.2.2.At, .str r.2.2.Name, mslO 2 b1_3' r.2.2.Pairs, .str r.2.2.Text, .int .i64 r.2.2.Refs]) :: mo b1_3' c_T_scan_Pair r.2.2.Pairs :: O) ∧ h' = Hp h ((q0, .cells [.sl 1 (List.map c_u8 r.2.1.b) 0, .int .i64 r.2.1.at_]) :: (q1, .cells [.int .i64 r.2.2.Kind, .int .i64 r.2.2.At, .str r.2.2.Name, mslO 2 b1_3' r.2.2.Pairs, .str r.2.2.Text, .int .i64 r.2.2.Refs]) :: mo b1_3' c_T_scan_Pair r.2.2.Pairs :: O) := by
 refine CallsA.ret (C_bodyO Tryd.func35 rfl en_35 Tryd.ntmps35 rfl ?_)
 rw [F_scan_scanner_tag] at hF
 refine C_seq (C_reg (mdl []) (S_a (v := .int _ _) rfl (S_nil (WP_scope (JW_step (C_seq (C_reg (mdl []) (S_a (v := .int _ _) rfl (S_nil (C_seq (C_reg (mdl [(6, 1)]) (S_all1 ok rfl ty_zc_32 ?_))))))))))))
 intro i1 hi1 ok
 refine S_nil (C_seq (C_reg (mdl []) (S_a (v := .snil) rfl (S_one 7 (v := .sl 1 (List.map c_u8 ([] : List UInt8)) 0) (.nil _) (S_nil (C_seq (C_reg (mdl []) (S_m (v := .ptr _ _) rfl (S_nilc (v := .ptr _ _) rfl rfl (S_faP rfl ty_fd_54_1 ty_sz_3 (S_ldP (j := 1) ok rfl rfl rfl hq0 (p_one (v := .int .i64 p0.at_) ty_ag_3 ty_sz_3 rfl) (S_bin rfl rfl (ev_add ..) (S_nilc (v := .ptr _ _) rfl rfl (S_faP rfl ty_fd_54_1 ty_sz_3 (S_st (j := 1) (cs' := [.sl 1 (List.map c_u8 p0.b) 0, .int .i64 (IntKind.wrap .i64 (p0.at_ + (1 : Int)))]) ok rfl rfl rfl hq0 rfl ty_sz_3 rfl rfl (fun ok => S_nil (C_seq (C_reg (mdl []) (S_m (v := .ptr _ _) rfl ?_)))))))))))))))))))
 obtain ⟨hpe, ok⟩ := Hp_pull 1 ok rfl
 rw [hpe]; clear hpe
 refine S_call (F_scan_scanner_name_ok (p0 := (⟨p0.b, (IntKind.wrap .i64 (p0.at_ + (1 : Int)))⟩ : T_scan_scanner)) (q0 := q0) h ((i1, .cells [.str ([] : List UInt8), .str ([] : List UInt8)]) :: (q1, .cells [.int .i64 p1.Kind, .int .i64 p1.At, .str p1.Name, mslO 2 b1_3 p1.Pairs, .str p1.Text, .int .i64 p1.Refs]) :: mo b1_3 c_T_scan_Pair p1.Pairs :: O) hq0 ok hF fun x2 _  ok hF => (S_m (v := .tup _) rfl (S_ext rfl rfl (S_ext rfl rfl (S_a (v := .str _) rfl (S_a (v := .int _ _) rfl (S_nil (C_seq (C_seq (C_reg (mdl []) (S_m (v := .int _ _) rfl (S_bin rfl rfl (ev_neq ..) (S_nil ?_))))))))))))) (.cons (.refl _) (.nil))
 refine C_if (b := (x2.1.2 != (0 : Int))) rfl hF (fun hb3 hF => ?_) (fun hb3 hF => ?_)
 ·
  refine C_seq (C_reg (mdl []) (S_m (v := .int _ _) rfl (S_a (v := .int _ _) rfl (S_nil (WP_ret ?_)))))
  repeat (first | with_reducible refine Exit.sel_ret ?_ | with_reducible refine Exit.blk_ret ?_ | with_reducible refine Exit.jmp_ret ?_)
  have hwo : WO ((q0, .cells [.sl 1 (List.map c_u8 x2.2.b) 0, .int .i64 x2.2.at_]) :: (i1, .cells [.str ([] : List UInt8), .str ([] : List UInt8)]) :: (q1, .cells [.int .i64 p1.Kind, .int .i64 p1.At, .str p1.Name, mslO 2 b1_3 p1.Pairs, .str p1.Text, .int .i64 p1.Refs]) :: mo b1_3 c_T_scan_Pair p1.Pairs :: O) ((q0, .cells [.sl 1 (List.map c_u8 x2.2.b) 0, .int .i64 x2.2.at_]) :: (q1, .cells [.int .i64 p1.Kind, .int .i64 p1.At, .str p1.Name, mslO 2 b1_3 p1.Pairs, .str p1.Text, .int .i64 p1.Refs]) :: mo b1_3 c_T_scan_Pair p1.Pairs :: O) := (.keep (.drop (.keep (.keep (.refl O)))))
  refine C_ret (fn := Tryd.f35) rfl (.tmp (v := .int .i64 x2.1.2) rfl .nil) ?_
  exact ⟨_, _, (.refl _), (hwo.spec ok).2.2, _, F_some hF, rfl, b1_3, zb1_3, (hwo.spec ok).1, rfl⟩
 ·
  refine WP_skip (C_seq (C_reg (mdl []) (S_m (v := .ptr _ _) rfl (S_m (v := .ptr _ _) rfl (S_m (v := .str _) rfl (S_nilc (v := .ptr _ _) rfl rfl (S_faP rfl ty_fd_30_2 ty_sz_9 (S_st (j := 2) (cs' := [.int .i64 p1.Kind, .int .i64 p1.At, .str x2.1.1, mslO 2 b1_3 p1.Pairs, .str p1.Text, .int .i64 p1.Refs]) ok rfl rfl rfl hq1 rfl ty_sz_9 rfl rfl (fun ok => S_nilc (v := .ptr _ _) rfl rfl (S_faP rfl ty_fd_30_0 ty_sz_3 (S_st (j := 2) (cs' := [.int .i64 (2 : Int), .int .i64 p1.At, .str x2.1.1, mslO 2 b1_3 p1.Pairs, .str p1.Text, .int .i64 p1.Refs]) ok rfl rfl rfl hq1 rfl ty_sz_3 rfl rfl (fun ok => S_nil (C_seq (WP_label ?_))))))))))))))
  refine C_gloop (σ := (List UInt8) × Int × Int × Int × (List UInt8) × (List T_scan_Pair) × (List UInt8) × Int × (List UInt8) × (List UInt8)) hF (fun (v : (List UInt8) × Int × Int × Int × (List UInt8) × (List T_scan_Pair) × (List UInt8) × Int × (List UInt8) × (List UInt8)) s' => match v with | (a4, a5, a6, a7, a8, a10, a11, a12, a13, a14) => ∃ g9 : Nat, (g9 = 0 → a10 = []) ∧ OK h ((q0, .cells [.sl 1 (List.map c_u8 a4) 0, .int .i64 a5]) :: (i1, .cells [.str a13, .str a14]) :: (q1, .cells [.int .i64 a6, .int .i64 a7, .str a8, mslO 2 g9 a10, .str a11, .int .i64 a12]) :: mo g9 c_T_scan_Pair a10 :: O) ∧ WS s' ⟨mkSl 118 [(0, .ptr q0 0), (1, .ptr q1 0), (6, .ptr i1 0)], Hp h ((q0, .cells [.sl 1 (List.map c_u8 a4) 0, .int .i64 a5]) :: (i1, .cells [.str a13, .str a14]) :: (q1, .cells [.int .i64 a6, .int .i64 a7, .str a8, mslO 2 g9 a10, .str a11, .int .i64 a12]) :: mo g9 c_T_scan_Pair a10 :: O)⟩) ?_ ?_
  ·
   have hwo : WO ((q0, .cells [.sl 1 (List.map c_u8 x2.2.b) 0, .int .i64 x2.2.at_]) :: (i1, .cells [.str ([] : List UInt8), .str ([] : List UInt8)]) :: (q1, .cells [.int .i64 (2 : Int), .int .i64 p1.At, .str x2.1.1, mslO 2 b1_3 p1.Pairs, .str p1.Text, .int .i64 p1.Refs]) :: mo b1_3 c_T_scan_Pair p1.Pairs :: O) ((q0, .cells [.sl 1 (List.map c_u8 x2.2.b) 0, .int .i64 x2.2.at_]) :: (i1, .cells [.str ([] : List UInt8), .str ([] : List UInt8)]) :: (q1, .cells [.int .i64 (2 : Int), .int .i64 p1.At, .str x2.1.1, mslO 2 b1_3 p1.Pairs, .str p1.Text, .int .i64 p1.Refs]) :: mo b1_3 c_T_scan_Pair p1.Pairs :: O) := (.keep (.keep (.keep (.keep (.refl O)))))
   exact ⟨b1_3, zb1_3, (hwo.spec ok).1, WS.mk' (.cons (.refl _) (.cons (.refl _) (.cons (.refl _) .nil))) ok hwo⟩
  ·
   rintro G15 hG16 rec17 ⟨a4, a5, a6, a7, a8, a10, a11, a12, a13, a14⟩ s' ih18 hF ⟨g9, zg9, ok, hws⟩
   refine WP_ws hws ?_
   clear hws s'
   rw [F_scan_scanner_tag_l0] at hF
   refine C_seq (C_reg (mdl []) (S_m (v := .ptr _ _) rfl (S_nilc (v := .ptr _ _) rfl rfl (S_faP rfl ty_fd_54_1 ty_sz_3 (S_ldP (j := 0) ok rfl rfl rfl hq0 (p_one (v := .int .i64 a5) ty_ag_3 ty_sz_3 rfl) (S_a (v := .int _ _) rfl (S_nil (C_seq (C_reg (mdl []) (S_m (v := .ptr _ _) rfl (S_m (v := .ptr _ _) rfl (S_m (v := .int _ _) rfl (S_call (F_scan_scanner_spaces_ok (p0 := (⟨a4, a5⟩ : T_scan_scanner)) (q0 := q0) h ((i1, .cells [.str a13, .str a14]) :: (q1, .cells [.int .i64 a6, .int .i64 a7, .str a8, mslO 2 g9 a10, .str a11, .int .i64 a12]) :: mo g9 c_T_scan_Pair a10 :: O) hq0 ok hF fun x19 _  ok hF => (S_nilc (v := .ptr _ _) rfl rfl (S_faP rfl ty_fd_54_1 ty_sz_3 (S_st (j := 0) (cs' := [.sl 1 (List.map c_u8 a4) 0, .int .i64 x19]) ok rfl rfl rfl hq0 rfl ty_sz_3 rfl rfl (fun ok => S_nil (C_seq (C_seq (C_reg (mdl []) (S_m (v := .ptr _ _) rfl (S_call (F_scan_scanner_here_ok (p0 := (⟨a4, x19⟩ : T_scan_scanner)) (q0 := q0) h ((i1, .cells [.str a13, .str a14]) :: (q1, .cells [.int .i64 a6, .int .i64 a7, .str a8, mslO 2 g9 a10, .str a11, .int .i64 a12]) :: mo g9 c_T_scan_Pair a10 :: O) hq0 ok hF fun x20 _  ok hF => (S_nil ?_)) (.cons (.refl _) (.cons (.refl _) (.nil))))))))))))) (.cons (.refl _) (.cons (.refl _) (.nil))))))))))))))))
   refine C_if (b := x20) rfl hF (fun hb21 hF => ?_) (fun hb21 hF => ?_)
   ·
    refine C_seq (C_reg (mdl []) (S_m (v := .ptr _ _) rfl (S_nilc (v := .ptr _ _) rfl rfl (S_faP rfl ty_fd_30_0 ty_sz_3 (S_st (j := 2) (cs' := [.int .i64 (4 : Int), .int .i64 a7, .str a8, mslO 2 g9 a10, .str a11, .int .i64 a12]) ok rfl rfl rfl hq1 rfl ty_sz_3 rfl rfl (fun ok => S_nil (C_seq (C_reg (mdl []) (S_m (v := .ptr _ _) rfl (S_call (F_scan_scanner_sign_ok (p0 := (⟨a4, x19⟩ : T_scan_scanner)) (q0 := q0) h ((i1, .cells [.str a13, .str a14]) :: (q1, .cells [.int .i64 (4 : Int), .int .i64 a7, .str a8, mslO 2 g9 a10, .str a11, .int .i64 a12]) :: mo g9 c_T_scan_Pair a10 :: O) hq0 ok hF fun x22 _  ok hF => (S_a (v := .int _ _) rfl (S_nil (WP_ret ?_)))) (.cons (.refl _) (.cons (.refl _) (.nil)))))))))))))
    replace hF := hG16 _ (F_some hF)
    repeat (first | with_reducible refine Exit.sel_ret ?_ | with_reducible refine Exit.blk_ret ?_ | with_reducible refine Exit.jmp_ret ?_)
    have hwo : WO ((q0, .cells [.sl 1 (List.map c_u8 x22.2.b) 0, .int .i64 x22.2.at_]) :: (i1, .cells [.str a13, .str a14]) :: (q1, .cells [.int .i64 (4 : Int), .int .i64 a7, .str a8, mslO 2 g9 a10, .str a11, .int .i64 a12]) :: mo g9 c_T_scan_Pair a10 :: O) ((q0, .cells [.sl 1 (List.map c_u8 x22.2.b) 0, .int .i64 x22.2.at_]) :: (q1, .cells [.int .i64 (4 : Int), .int .i64 a7, .str a8, mslO 2 g9 a10, .str a11, .int .i64 a12]) :: mo g9 c_T_scan_Pair a10 :: O) := (.keep (.drop (.keep (.keep (.refl O)))))
    refine C_ret (fn := Tryd.f35) rfl (.tmp (v := .int .i64 x22.1) rfl .nil) ?_
    exact ⟨_, _, (.refl _), (hwo.spec ok).2.2, _, F_some hF, rfl, g9, zg9, (hwo.spec ok).1, rfl⟩
   ·
    refine WP_skip (C_seq (C_seq (C_reg (mdl []) (S_m (v := .ptr _ _) rfl (S_call (F_scan_scanner_here_ok (p0 := (⟨a4, x19⟩ : T_scan_scanner)) (q0 := q0) h ((i1, .cells [.str a13, .str a14]) :: (q1, .cells [.int .i64 a6, .int .i64 a7, .str a8, mslO 2 g9 a10, .str a11, .int .i64 a12]) :: mo g9 c_T_scan_Pair a10 :: O) hq0 ok hF fun x23 _  ok hF => (S_nil ?_)) (.cons (.refl _) (.cons (.refl _) (.nil))))))))
    refine C_if (b := x23) rfl hF (fun hb24 hF => ?_) (fun hb24 hF => ?_)
    ·
     refine C_seq (C_reg (mdl []) (S_m (v := .ptr _ _) rfl (S_call (F_scan_scanner_sign_ok (p0 := (⟨a4, x19⟩ : T_scan_scanner)) (q0 := q0) h ((i1, .cells [.str a13, .str a14]) :: (q1, .cells [.int .i64 a6, .int .i64 a7, .str a8, mslO 2 g9 a10, .str a11, .int .i64 a12]) :: mo g9 c_T_scan_Pair a10 :: O) hq0 ok hF fun x25 _  ok hF => (S_a (v := .int _ _) rfl (S_nil (WP_ret ?_)))) (.cons (.refl _) (.cons (.refl _) (.nil))))))
     replace hF := hG16 _ (F_some hF)
     repeat (first | with_reducible refine Exit.sel_ret ?_ | with_reducible refine Exit.blk_ret ?_ | with_reducible refine Exit.jmp_ret ?_)
     have hwo : WO ((q0, .cells [.sl 1 (List.map c_u8 x25.2.b) 0, .int .i64 x25.2.at_]) :: (i1, .cells [.str a13, .str a14]) :: (q1, .cells [.int .i64 a6, .int .i64 a7, .str a8, mslO 2 g9 a10, .str a11, .int .i64 a12]) :: mo g9 c_T_scan_Pair a10 :: O) ((q0, .cells [.sl 1 (List.map c_u8 x25.2.b) 0, .int .i64 x25.2.at_]) :: (q1, .cells [.int .i64 a6, .int .i64 a7, .str a8, mslO 2 g9 a10, .str a11, .int .i64 a12]) :: mo g9 c_T_scan_Pair a10 :: O) := (.keep (.drop (.keep (.keep (.refl O)))))
     refine C_ret (fn := Tryd.f35) rfl (.tmp (v := .int .i64 x25.1) rfl .nil) ?_
     exact ⟨_, _, (.refl _), (hwo.spec ok).2.2, _, F_some hF, rfl, g9, zg9, (hwo.spec ok).1, rfl⟩
    ·
     refine WP_skip (C_seq (C_seq (C_reg (mdl []) (S_m (v := .ptr _ _) rfl (S_nilc (v := .ptr _ _) rfl rfl (S_faP rfl ty_fd_54_1 ty_sz_3 (S_ldP (j := 0) ok rfl rfl rfl hq0 (p_one (v := .int .i64 x19) ty_ag_3 ty_sz_3 rfl) (S_m (v := .int _ _) rfl (S_bin rfl rfl (ev_eql ..) (S_nil ?_))))))))))
     refine C_if (b := (x19 == a5)) rfl hF (fun hb26 hF => ?_) (fun hb26 hF => ?_)
     ·
      refine C_seq (C_reg (mdl []) (S_a (v := .int _ _) rfl (S_nil (WP_ret ?_))))
      replace hF := hG16 _ (F_some hF)
      repeat (first | with_reducible refine Exit.sel_ret ?_ | with_reducible refine Exit.blk_ret ?_ | with_reducible refine Exit.jmp_ret ?_)
      have hwo : WO ((q0, .cells [.sl 1 (List.map c_u8 a4) 0, .int .i64 x19]) :: (i1, .cells [.str a13, .str a14]) :: (q1, .cells [.int .i64 a6, .int .i64 a7, .str a8, mslO 2 g9 a10, .str a11, .int .i64 a12]) :: mo g9 c_T_scan_Pair a10 :: O) ((q0, .cells [.sl 1 (List.map c_u8 a4) 0, .int .i64 x19]) :: (q1, .cells [.int .i64 a6, .int .i64 a7, .str a8, mslO 2 g9 a10, .str a11, .int .i64 a12]) :: mo g9 c_T_scan_Pair a10 :: O) := (.keep (.drop (.keep (.keep (.refl O)))))
      refine C_ret (fn := Tryd.f35) rfl (.tmp (v := .int .i64 (23 : Int)) rfl .nil) ?_
      exact ⟨_, _, (.refl _), (hwo.spec ok).2.2, _, F_some hF, rfl, g9, zg9, (hwo.spec ok).1, rfl⟩
     ·
      refine WP_skip (C_seq (C_seq (C_reg (mdl []) (S_m (v := .ptr _ _) rfl (S_call (F_scan_scanner_name_ok (p0 := (⟨a4, x19⟩ : T_scan_scanner)) (q0 := q0) h ((i1, .cells [.str a13, .str a14]) :: (q1, .cells [.int .i64 a6, .int .i64 a7, .str a8, mslO 2 g9 a10, .str a11, .int .i64 a12]) :: mo g9 c_T_scan_Pair a10 :: O) hq0 ok hF fun x27 _  ok hF => (S_m (v := .tup _) rfl (S_ext rfl rfl (S_ext rfl rfl (S_faP rfl ty_fd_32_0 ty_sz_9 (S_st (j := 1) (cs' := [.str x27.1.1, .str a14]) ok rfl rfl rfl hi1 rfl ty_sz_9 rfl rfl (fun ok => S_a (v := .int _ _) rfl (S_nil (C_seq (C_reg (mdl []) (S_m (v := .int _ _) rfl (S_bin rfl rfl (ev_neq ..) (S_nil ?_))))))))))))) (.cons (.refl _) (.nil)))))))
      refine C_if (b := (x27.1.2 != (0 : Int))) rfl hF (fun hb28 hF => ?_) (fun hb28 hF => ?_)
      ·
       refine C_seq (C_reg (mdl []) (S_m (v := .int _ _) rfl (S_a (v := .int _ _) rfl (S_nil (WP_ret ?_)))))
       replace hF := hG16 _ (F_some hF)
       repeat (first | with_reducible refine Exit.sel_ret ?_ | with_reducible refine Exit.blk_ret ?_ | with_reducible refine Exit.jmp_ret ?_)
       have hwo : WO ((q0, .cells [.sl 1 (List.map c_u8 x27.2.b) 0, .int .i64 x27.2.at_]) :: (i1, .cells [.str x27.1.1, .str a14]) :: (q1, .cells [.int .i64 a6, .int .i64 a7, .str a8, mslO 2 g9 a10, .str a11, .int .i64 a12]) :: mo g9 c_T_scan_Pair a10 :: O) ((q0, .cells [.sl 1 (List.map c_u8 x27.2.b) 0, .int .i64 x27.2.at_]) :: (q1, .cells [.int .i64 a6, .int .i64 a7, .str a8, mslO 2 g9 a10, .str a11, .int .i64 a12]) :: mo g9 c_T_scan_Pair a10 :: O) := (.keep (.drop (.keep (.keep (.refl O)))))
       refine C_ret (fn := Tryd.f35) rfl (.tmp (v := .int .i64 x27.1.2) rfl .nil) ?_
       exact ⟨_, _, (.refl _), (hwo.spec ok).2.2, _, F_some hF, rfl, g9, zg9, (hwo.spec ok).1, rfl⟩
      ·
       refine WP_skip (C_seq (C_seq (C_reg (mdl []) (S_m (v := .ptr _ _) rfl (S_call (F_scan_scanner_equals_ok (p0 := x27.2) (q0 := q0) h ((i1, .cells [.str x27.1.1, .str a14]) :: (q1, .cells [.int .i64 a6, .int .i64 a7, .str a8, mslO 2 g9 a10, .str a11, .int .i64 a12]) :: mo g9 c_T_scan_Pair a10 :: O) hq0 ok hF fun x29 _  ok hF => (S_a (v := .int _ _) rfl (S_nil (C_seq (C_reg (mdl []) (S_m (v := .int _ _) rfl (S_bin rfl rfl (ev_neq ..) (S_nil ?_)))))))) (.cons (.refl _) (.nil)))))))
       refine C_if (b := (x29.1 != (0 : Int))) rfl hF (fun hb30 hF => ?_) (fun hb30 hF => ?_)
       ·
        refine C_seq (C_reg (mdl []) (S_m (v := .int _ _) rfl (S_a (v := .int _ _) rfl (S_nil (WP_ret ?_)))))
        replace hF := hG16 _ (F_some hF)
        repeat (first | with_reducible refine Exit.sel_ret ?_ | with_reducible refine Exit.blk_ret ?_ | with_reducible refine Exit.jmp_ret ?_)
        have hwo : WO ((q0, .cells [.sl 1 (List.map c_u8 x29.2.b) 0, .int .i64 x29.2.at_]) :: (i1, .cells [.str x27.1.1, .str a14]) :: (q1, .cells [.int .i64 a6, .int .i64 a7, .str a8, mslO 2 g9 a10, .str a11, .int .i64 a12]) :: mo g9 c_T_scan_Pair a10 :: O) ((q0, .cells [.sl 1 (List.map c_u8 x29.2.b) 0, .int .i64 x29.2.at_]) :: (q1, .cells [.int .i64 a6, .int .i64 a7, .str a8, mslO 2 g9 a10, .str a11, .int .i64 a12]) :: mo g9 c_T_scan_Pair a10 :: O) := (.keep (.drop (.keep (.keep (.refl O)))))
        refine C_ret (fn := Tryd.f35) rfl (.tmp (v := .int .i64 x29.1) rfl .nil) ?_
        exact ⟨_, _, (.refl _), (hwo.spec ok).2.2, _, F_some hF, rfl, g9, zg9, (hwo.spec ok).1, rfl⟩
       ·
        refine WP_skip (C_seq (C_seq (C_reg (mdl []) (S_m (v := .ptr _ _) rfl (S_call (F_scan_scanner_quoted_ok (p0 := x29.2) (q0 := q0) h ((i1, .cells [.str x27.1.1, .str a14]) :: (q1, .cells [.int .i64 a6, .int .i64 a7, .str a8, mslO 2 g9 a10, .str a11, .int .i64 a12]) :: mo g9 c_T_scan_Pair a10 :: O) hq0 ok hF fun x31 _  ok hF => (S_m (v := .tup _) rfl (S_ext rfl rfl (S_ext rfl rfl (S_a (v := .sl _ _ _) rfl (S_a (v := .int _ _) rfl (S_nil (C_seq (C_reg (mdl []) (S_m (v := .int _ _) rfl (S_bin rfl rfl (ev_neq ..) (S_nil ?_)))))))))))) (.cons (.refl _) (.nil)))))))
        refine C_if (b := (x31.1.2 != (0 : Int))) rfl hF (fun hb32 hF => ?_) (fun hb32 hF => ?_)
        ·
         refine C_seq (C_reg (mdl []) (S_m (v := .int _ _) rfl (S_a (v := .int _ _) rfl (S_nil (WP_ret ?_)))))
         replace hF := hG16 _ (F_some hF)
         repeat (first | with_reducible refine Exit.sel_ret ?_ | with_reducible refine Exit.blk_ret ?_ | with_reducible refine Exit.jmp_ret ?_)
         have hwo : WO ((q0, .cells [.sl 1 (List.map c_u8 x31.2.b) 0, .int .i64 x31.2.at_]) :: (i1, .cells [.str x27.1.1, .str a14]) :: (q1, .cells [.int .i64 a6, .int .i64 a7, .str a8, mslO 2 g9 a10, .str a11, .int .i64 a12]) :: mo g9 c_T_scan_Pair a10 :: O) ((q0, .cells [.sl 1 (List.map c_u8 x31.2.b) 0, .int .i64 x31.2.at_]) :: (q1, .cells [.int .i64 a6, .int .i64 a7, .str a8, mslO 2 g9 a10, .str a11, .int .i64 a12]) :: mo g9 c_T_scan_Pair a10 :: O) := (.keep (.drop (.keep (.keep (.refl O)))))
         refine C_ret (fn := Tryd.f35) rfl (.tmp (v := .int .i64 x31.1.2) rfl .nil) ?_
         exact ⟨_, _, (.refl _), (hwo.spec ok).2.2, _, F_some hF, rfl, g9, zg9, (hwo.spec ok).1, rfl⟩
        ·
         refine WP_skip (C_seq (C_seq (C_reg (mdl []) (S_m (v := .sl _ _ _) rfl (S_call (F_refer_ReadValue_ok _ hF fun x33 _ hF => (S_m (v := .tup _) rfl (S_ext rfl rfl (S_ext rfl rfl (S_ext rfl rfl (S_faP rfl ty_fd_32_1 ty_sz_9 (S_st (j := 1) (cs' := [.str x27.1.1, .str x33.1]) ok rfl rfl rfl hi1 rfl ty_sz_9 rfl rfl (fun ok => S_a (v := .int _ _) rfl (S_nil (C_seq (C_reg (mdl []) (S_m (v := .int _ _) rfl (S_bin rfl rfl (ev_neq ..) (S_nil ?_)))))))))))))) (.cons (.refl _) (.nil)))))))
         refine C_if (b := (x33.2.2 != (0 : Int))) rfl hF (fun hb34 hF => ?_) (fun hb34 hF => ?_)
         ·
          refine C_seq (C_reg (mdl []) (S_m (v := .int _ _) rfl (S_a (v := .int _ _) rfl (S_nil (WP_ret ?_)))))
          replace hF := hG16 _ (F_some hF)
          repeat (first | with_reducible refine Exit.sel_ret ?_ | with_reducible refine Exit.blk_ret ?_ | with_reducible refine Exit.jmp_ret ?_)
          have hwo : WO ((q0, .cells [.sl 1 (List.map c_u8 x31.2.b) 0, .int .i64 x31.2.at_]) :: (i1, .cells [.str x27.1.1, .str x33.1]) :: (q1, .cells [.int .i64 a6, .int .i64 a7, .str a8, mslO 2 g9 a10, .str a11, .int .i64 a12]) :: mo g9 c_T_scan_Pair a10 :: O) ((q0, .cells [.sl 1 (List.map c_u8 x31.2.b) 0, .int .i64 x31.2.at_]) :: (q1, .cells [.int .i64 a6, .int .i64 a7, .str a8, mslO 2 g9 a10, .str a11, .int .i64 a12]) :: mo g9 c_T_scan_Pair a10 :: O) := (.keep (.drop (.keep (.keep (.refl O)))))
          refine C_ret (fn := Tryd.f35) rfl (.tmp (v := .int .i64 x33.2.2) rfl .nil) ?_
          exact ⟨_, _, (.refl _), (hwo.spec ok).2.2, _, F_some hF, rfl, g9, zg9, (hwo.spec ok).1, rfl⟩
         ·
          refine WP_skip ?_
          refine C_join hF (fun (_ : Unit) s' => OK h ((q0, .cells [.sl 1 (List.map c_u8 x31.2.b) 0, .int .i64 x31.2.at_]) :: (i1, .cells [.str x27.1.1, .str x33.1]) :: (q1, .cells [.int .i64 a6, .int .i64 a7, .str a8, mslO 2 g9 a10, .str a11, .int .i64 a12]) :: mo g9 c_T_scan_Pair a10 :: O) ∧ WS s' ⟨mkSl 118 [(0, .ptr q0 0), (1, .ptr q1 0), (6, .ptr i1 0)], Hp h ((q0, .cells [.sl 1 (List.map c_u8 x31.2.b) 0, .int .i64 x31.2.at_]) :: (i1, .cells [.str x27.1.1, .str x33.1]) :: (q1, .cells [.int .i64 a6, .int .i64 a7, .str a8, mslO 2 g9 a10, .str a11, .int .i64 a12]) :: mo g9 c_T_scan_Pair a10 :: O)⟩) (fun J40 hF => ?_) ?_
          ·
           refine C_seq (C_reg (mdl []) (S_m (v := .ptr _ _) rfl (S_nilc (v := .ptr _ _) rfl rfl (S_faP rfl ty_fd_30_3 ty_sz_28 (S_ldP (j := 2) ok rfl rfl rfl hq1 (p_one (v := mslO 2 g9 a10) ty_ag_28 ty_sz_28 rfl) (S_lenO zg9 rfl ty_sl_28 (S_m (v := .int _ _) rfl (S_nil (WP_block ?_)))))))))
           refine C_loop (σ := Int) hF (fun (a41 : Int) s' => OK h ((q0, .cells [.sl 1 (List.map c_u8 x31.2.b) 0, .int .i64 x31.2.at_]) :: (i1, .cells [.str x27.1.1, .str x33.1]) :: (q1, .cells [.int .i64 a6, .int .i64 a7, .str a8, mslO 2 g9 a10, .str a11, .int .i64 a12]) :: mo g9 c_T_scan_Pair a10 :: O) ∧ WS s' ⟨mkSl 118 [(0, .ptr q0 0), (1, .ptr q1 0), (6, .ptr i1 0), (96, mslO 2 g9 a10), (97, .int .i64 (a10.length : Int)), (98, .int .i64 a41)], Hp h ((q0, .cells [.sl 1 (List.map c_u8 x31.2.b) 0, .int .i64 x31.2.at_]) :: (i1, .cells [.str x27.1.1, .str x33.1]) :: (q1, .cells [.int .i64 a6, .int .i64 a7, .str a8, mslO 2 g9 a10, .str a11, .int .i64 a12]) :: mo g9 c_T_scan_Pair a10 :: O)⟩) ?_ ?_
           ·
            have hwo : WO ((q0, .cells [.sl 1 (List.map c_u8 x31.2.b) 0, .int .i64 x31.2.at_]) :: (i1, .cells [.str x27.1.1, .str x33.1]) :: (q1, .cells [.int .i64 a6, .int .i64 a7, .str a8, mslO 2 g9 a10, .str a11, .int .i64 a12]) :: mo g9 c_T_scan_Pair a10 :: O) ((q0, .cells [.sl 1 (List.map c_u8 x31.2.b) 0, .int .i64 x31.2.at_]) :: (i1, .cells [.str x27.1.1, .str x33.1]) :: (q1, .cells [.int .i64 a6, .int .i64 a7, .str a8, mslO 2 g9 a10, .str a11, .int .i64 a12]) :: mo g9 c_T_scan_Pair a10 :: O) := (.keep (.keep (.keep (.keep (.refl O)))))
            exact ⟨(hwo.spec ok).1, WS.mk' (.cons (.refl _) (.cons (.refl _) (.cons (.refl _) (.cons (.refl _) (.cons (.refl _) (.cons (.refl _) .nil)))))) ok hwo⟩
           ·
            rintro G42 hG43 rec44 a41 s' ih45 hF ⟨ok, hws⟩
            refine WP_ws hws ?_
            clear hws s'
            rw [F_scan_scanner_tag_l1] at hF
            refine C_seq (C_reg (mdl []) (S_bin rfl rfl (ev_lss ..) (S_nil (C_seq ?_))))
            refine C_if (b := (decide (a41 < (a10.length : Int)))) rfl hF (fun hb46 hF => ?_) (fun hb46 hF => ?_)
            ·
             refine WP_skip (C_seq (WP_block (C_seq (C_reg (mdl [(11, 1)]) (S_ixO zg9 rfl rfl ty_sl_28 ty_sz_32 hF (fun x47 hx47 hF => S_ldO (q := 2) (j := 3) (f0 := 0) ok rfl zg9 rfl rfl (fun _ => rfl) hx47 rfl rfl (p_agg (vs := c_T_scan_Pair x47) ty_ag_32 ty_sz_32 rfl rfl) (S_all1 ok rfl ty_zc_32 ?_)))))))
             intro i48 hi48 ok
             refine S_st (j := 0) (cs' := [.str x47.Name, .str x47.Value]) ok rfl rfl rfl hi48 rfl ty_sz_32 rfl rfl (fun ok => S_nil (C_seq (C_reg (mdl []) (S_faP rfl ty_fd_32_0 ty_sz_9 (S_ldP (j := 0) ok rfl rfl rfl hi48 (p_one (v := .str x47.Name) ty_ag_9 ty_sz_9 rfl) (S_faP rfl ty_fd_32_0 ty_sz_9 (S_ldP (j := 2) ok rfl rfl rfl hi1 (p_one (v := .str x27.1.1) ty_ag_9 ty_sz_9 rfl) (S_bin rfl rfl e_seql (S_nil ?_)))))))))
             refine C_if (b := (x47.Name == x27.1.1)) rfl hF (fun hb49 hF => ?_) (fun hb49 hF => ?_)
             ·
              refine C_seq (C_reg (mdl []) (S_a (v := .int _ _) rfl (S_nil (WP_ret ?_))))
              replace hF := hG43 _ (F_some hF)
              replace hF := hG16 _ (F_some hF)
              repeat (first | with_reducible refine Exit.sel_ret ?_ | with_reducible refine Exit.blk_ret ?_ | with_reducible refine Exit.jmp_ret ?_)
              have hwo : WO ((i48, .cells [.str x47.Name, .str x47.Value]) :: (q0, .cells [.sl 1 (List.map c_u8 x31.2.b) 0, .int .i64 x31.2.at_]) :: (i1, .cells [.str x27.1.1, .str x33.1]) :: (q1, .cells [.int .i64 a6, .int .i64 a7, .str a8, mslO 2 g9 a10, .str a11, .int .i64 a12]) :: mo g9 c_T_scan_Pair a10 :: O) ((q0, .cells [.sl 1 (List.map c_u8 x31.2.b) 0, .int .i64 x31.2.at_]) :: (q1, .cells [.int .i64 a6, .int .i64 a7, .str a8, mslO 2 g9 a10, .str a11, .int .i64 a12]) :: mo g9 c_T_scan_Pair a10 :: O) := (.drop (.keep (.drop (.keep (.keep (.refl O))))))
              refine C_ret (fn := Tryd.f35) rfl (.tmp (v := .int .i64 (27 : Int)) rfl .nil) ?_
              exact ⟨_, _, (.refl _), (hwo.spec ok).2.2, _, F_some hF, rfl, g9, zg9, (hwo.spec ok).1, rfl⟩
             ·
              refine WP_skip (C_reg (mdl []) (S_bin rfl rfl (ev_add ..) (S_m (v := .int _ _) rfl (S_nil (ih45 (IntKind.wrap .i64 (a41 + (1 : Int))) _ hF ?_)))))
              have hwo : WO ((i48, .cells [.str x47.Name, .str x47.Value]) :: (q0, .cells [.sl 1 (List.map c_u8 x31.2.b) 0, .int .i64 x31.2.at_]) :: (i1, .cells [.str x27.1.1, .str x33.1]) :: (q1, .cells [.int .i64 a6, .int .i64 a7, .str a8, mslO 2 g9 a10, .str a11, .int .i64 a12]) :: mo g9 c_T_scan_Pair a10 :: O) ((q0, .cells [.sl 1 (List.map c_u8 x31.2.b) 0, .int .i64 x31.2.at_]) :: (i1, .cells [.str x27.1.1, .str x33.1]) :: (q1, .cells [.int .i64 a6, .int .i64 a7, .str a8, mslO 2 g9 a10, .str a11, .int .i64 a12]) :: mo g9 c_T_scan_Pair a10 :: O) := (.drop (.keep (.keep (.keep (.keep (.refl O))))))
              exact ⟨(hwo.spec ok).1, WS.mk' (.cons (.refl _) (.cons (.refl _) (.cons (.refl _) (.cons (.refl _) (.cons (.refl _) (.cons (.refl _) .nil)))))) ok hwo⟩
            ·
             refine WP_exit ?_
             simp only [Exit.sel, Exit.blk, Exit.jmp, if_true, if_false, reduceIte, Nat.reduceEqDiff, Nat.succ_ne_zero, Nat.zero_ne_one, Nat.one_ne_zero]
             replace hF := hG43 _ (F_some hF)
             have hwo : WO ((q0, .cells [.sl 1 (List.map c_u8 x31.2.b) 0, .int .i64 x31.2.at_]) :: (i1, .cells [.str x27.1.1, .str x33.1]) :: (q1, .cells [.int .i64 a6, .int .i64 a7, .str a8, mslO 2 g9 a10, .str a11, .int .i64 a12]) :: mo g9 c_T_scan_Pair a10 :: O) ((q0, .cells [.sl 1 (List.map c_u8 x31.2.b) 0, .int .i64 x31.2.at_]) :: (i1, .cells [.str x27.1.1, .str x33.1]) :: (q1, .cells [.int .i64 a6, .int .i64 a7, .str a8, mslO 2 g9 a10, .str a11, .int .i64 a12]) :: mo g9 c_T_scan_Pair a10 :: O) := (.keep (.keep (.keep (.keep (.refl O)))))
             exact ⟨(), hF, (hwo.spec ok).1, WS.mk' (.cons (.refl _) (.cons (.refl _) (.cons (.refl _) .nil))) ok hwo⟩
          ·
           rintro ⟨⟩ s' hF ⟨ok, hws⟩
           refine WP_ws hws ?_
           clear hws s'
           refine C_seq ?_
           refine C_drw (mdl [(115, 1)]) (by kernel_rfl) (by kernel_rfl) ?_
           refine S_m (v := .ptr _ _) rfl (S_m (v := .ptr _ _) rfl (S_nilc (v := .ptr _ _) rfl rfl (S_faP rfl ty_fd_30_3 ty_sz_28 (S_ldP (j := 2) ok rfl rfl rfl hq1 (p_one (v := mslO 2 g9 a10) ty_ag_28 ty_sz_28 rfl) (S_ldP (j := 1) ok rfl rfl rfl hi1 (p_agg (vs := c_T_scan_Pair (⟨x27.1.1, x33.1⟩ : T_scan_Pair)) ty_ag_32 ty_sz_32 rfl rfl) ?_)))))
           refine S_lit0 (cs := [.str (⟨x27.1.1, x33.1⟩ : T_scan_Pair).Name, .str (⟨x27.1.1, x33.1⟩ : T_scan_Pair).Value]) (es := (List.map c_T_scan_Pair [(⟨x27.1.1, x33.1⟩ : T_scan_Pair)])) rfl ty_el_28 rfl (by kernel_rfl) (by kernel_rfl) ?_
           refine S_appO (j := 3) (M := [(⟨x27.1.1, x33.1⟩ : T_scan_Pair)]) ok zg9 rfl rfl src_sl (fun _ => rfl) rfl ty_el_28 ty_ni_28 hF ?_
           intro u50 zu50 ok hF
           obtain ⟨a51, ha51, hF⟩ := F_let hF
           rw [← ha51] at ok zu50
           rw [← ha51]
           refine S_nilc (v := .ptr _ _) rfl rfl (S_faP rfl ty_fd_30_3 ty_sz_28 (S_stB (j := 2) (cs' := [.int .i64 a6, .int .i64 a7, .str a8, mslO 2 u50 a51, .str a11, .int .i64 a12]) ok rfl rfl rfl hq1 ty_sz_28 rfl rfl (fun ok => S_nil (WP_goto ?_))))
           repeat (first | with_reducible refine Exit.sel_goto ?_ | with_reducible refine Exit.blk_goto ?_)
           refine jmp_goto rfl (ih18 (x31.2.b, x31.2.at_, a6, a7, a8, a51, a11, a12, x27.1.1, x33.1) _ hF ?_)
           have hwo : WO ((q0, .cells [.sl 1 (List.map c_u8 x31.2.b) 0, .int .i64 x31.2.at_]) :: (i1, .cells [.str x27.1.1, .str x33.1]) :: (q1, .cells [.int .i64 a6, .int .i64 a7, .str a8, mslO 2 u50 a51, .str a11, .int .i64 a12]) :: mo u50 c_T_scan_Pair a51 :: O) ((q0, .cells [.sl 1 (List.map c_u8 x31.2.b) 0, .int .i64 x31.2.at_]) :: (i1, .cells [.str x27.1.1, .str x33.1]) :: (q1, .cells [.int .i64 a6, .int .i64 a7, .str a8, mslO 2 u50 a51, .str a11, .int .i64 a12]) :: mo u50 c_T_scan_Pair a51 :: O) := (.keep (.keep (.keep (.keep (.refl O)))))
           exact ⟨u50, zu50, (hwo.spec ok).1, WS.mk' (.cons (.refl _) (.cons (.refl _) (.cons (.refl _) .nil))) ok hwo⟩
theorem F_scan_scanner_tag_ok {β : Type} {f0 : Int × T_scan_scanner × T_scan_Token → Option β} {G : β → Prop} {R : D → Heap → Prop} {p0 : T_scan_scanner} {p1 : T_scan_Token} {q0 : Nat} {q1 : Nat} {b1_3 : Nat} (h : Heap) (O : List (Nat × AObj)) (hq0 : q0 ≠ 0) (hq1 : q1 ≠ 0) (zb1_3 : b1_3 = 0 → p1.Pairs = []) (ok : OK h ((q0, .cells [.sl 1 (List.map c_u8 p0.b) 0, .int .i64 p0.at_]) :: (q1, .cells [.int .i64 p1.Kind, .int .i64 p1.At, .str p1.Name, mslO 2 b1_3 p1.Pairs, .str p1.Text, .int .i64 p1.Refs]) :: mo b1_3 c_T_scan_Pair p1.Pairs :: O)) (hF : OptP ((F_scan_scanner_tag p0 p1).bind f0) G) (hk : ∀ r b1_3', F_scan_scanner_tag p0 p1 = some r → (b1_3' = 0 → r.2.2.Pairs = []) → OK h ((q0, .cells [.sl 1 (List.map c_u8 r.2.1.b) 0, .int .i64 r.2.1.at_]) :: (q1, .cells [.int .i64 r.2.2.Kind, .int .i64 r.2.2.At, .str r.2.2.Name, mslO 2 b1_3' r.2.2.Pairs, .str r.2.2.Text, .int .i64 r.2.2.Refs]) :: mo b1_3' c_T_scan_Pair r.2.2.Pairs :: O) → OptP (f0 r) G → R (.int .i64 r.1) (Hp h ((q0, .cells [.sl 1 (List.map c_u8 r.2.1.b) 0, .int .i64 r.2.1.at_]) :: (q1, .cells [.int .i64 r.2.2.Kind, .int .i64 r.2.2.At, .str r.2.2.Name, mslO 2 b1_3' r.2.2.Pairs, .str r.2.2.Text, .int .i64 r.2.2.Refs]) :: mo b1_3' c_T_scan_Pair r.2.2.Pairs :: O))) : CallsA Tryd.prog 35 [.ptr q0 0, .ptr q1 0] (Hp h ((q0, .cells [.sl 1 (List.map c_u8 p0.b) 0, .int .i64 p0.at_]) :: (q1, .cells [.int .i64 p1.Kind, .int .i64 p1.At, .str p1.Name, mslO 2 b1_3 p1.Pairs, .str p1.Text, .int .i64 p1.Refs]) :: mo b1_3 c_T_scan_Pair p1.Pairs :: O)) R := by
 obtain ⟨r0, hr, hF⟩ := F_bind hF
 refine (F_scan_scanner_tag_w (G := fun r => r = r0) p0 p1 q0 q1 b1_3 h O hq0 hq1 zb1_3 ok ⟨r0, hr, rfl⟩).mono ?_
 rintro _ _ ⟨r, rfl, rfl, b1_3', y0, ok', rfl⟩
 exact hk _ _ hr y0 ok' hF
theorem F_refer_ReadText_w (p0 : List UInt8) {G : (List UInt8) × Int × Int → Prop} (h : Heap) (hF : OptP (F_refer_ReadText p0) G) : CallsA Tryd.prog 51 [.sl 1 (List.map c_u8 p0) 0] h fun d h' => ∃ r, G r ∧ d = .tup [.str r.1, .int .i64 r.2.1, .int .i64 r.2.2] ∧ h' = h := by
 refine CallsA.ret (C_body Tryd.func51 rfl en_51 Tryd.ntmps51 rfl (fun ok => ?_))
 rw [F_refer_ReadText] at hF
 refine C_seq (C_reg (mdl []) (S_a (v := .str ([] : List UInt8)) rfl (S_a (v := .int _ _) rfl (S_a (v := .int _ _) rfl (S_nil (C_seq (C_reg (mdl []) (S_m (v := .sl _ _ _) rfl (S_call (F_refer_read_ok _ hF fun x1 _ hF => (S_ext rfl rfl (S_ext rfl rfl (S_ext rfl rfl (S_a (v := .str _) rfl (S_a (v := .int _ _) rfl (S_a (v := .int _ _) rfl (S_nil (WP_ret ?_))))))))) (.cons (.refl _) (.cons (.refl _) (.nil))))))))))))
 repeat (first | with_reducible refine Exit.sel_ret ?_ | with_reducible refine Exit.blk_ret ?_ | with_reducible refine Exit.jmp_ret ?_)
 refine C_ret (fn := Tryd.f51) rfl (.tmp (v := .str x1.1) rfl (.tmp (v := .int .i64 x1.2.1) rfl (.tmp (v := .int .i64 x1.2.2) rfl .nil))) ?_
 exact ⟨_, _, (.tupC (.cons (.refl _) (.cons (.refl _) (.cons (.refl _) (.nil))))), ok.wh, _, F_some hF, rfl, rfl⟩
theorem F_refer_ReadText_ok {β : Type} {f : (List UInt8) × Int × Int → Option β} {G : β → Prop} {R : D → Heap → Prop} {p0 : List UInt8} (h : Heap) (hF : OptP ((F_refer_ReadText p0).bind f) G) (hk : ∀ r, F_refer_ReadText p0 = some r → OptP (f r) G → R (.tup [.str r.1, .int .i64 r.2.1, .int .i64 r.2.2]) h) : CallsA Tryd.prog 51 [.sl 1 (List.map c_u8 p0) 0] h R := by
 obtain ⟨r0, hr, hF⟩ := F_bind hF
 refine (F_refer_ReadText_w (G := fun r => r = r0) p0 h ⟨r0, hr, rfl⟩).mono ?_
 rintro _ _ ⟨r, rfl, rfl, rfl⟩
 exact hk _ hr hF
theorem F_scan_scanner_text_w (p0 : T_scan_scanner) (p1 : T_scan_Token) (q0 : Nat) (q1 : Nat) (b1_3 : Nat) {G : Int × T_scan_scanner × T_scan_Token → Prop} (h : Heap) (O : List (Nat × AObj)) (hq0 : q0 ≠ 0) (hq1 : q1 ≠ 0) (zb1_3 : b1_3 = 0 → p1.Pairs = []) (ok : OK h ((q0, .cells [.sl 1 (List.map c_u8 p0.b) 0, .int .i64 p0.at_]) :: (q1, .cells [.int .i64 p1.Kind, .int .i64 p1.At, .str p1.Name, mslO 2 b1_3 p1.Pairs, .str p1.Text, .int .i64 p1.Refs]) :: mo b1_3 c_T_scan_Pair p1.Pairs :: O)) (hF : OptP (F_scan_scanner_text p0 p1) G) : CallsA Tryd.prog 36 [.ptr q0 0, .ptr q1 0] (Hp h ((q0, .cells [.sl 1 (List.map c_u8 p0.b) 0, .int .i64 p0.at_]) :: (q1, .cells [.int .i64 p1.Kind, .int .i64 p1.At, .str p1.Name, mslO 2 b1_3 p1.Pairs, .str p1.Text, .int .i64 p1.Refs]) :: mo b1_3 c_T_scan_Pair p1.Pairs :: O)) fun d h' => ∃ r, G r ∧ d = .int .i64 r.1 ∧ ∃ b1_3' : Nat, (b1_3' = 0 → r.2.2.Pairs = []) ∧ OK h ((q0, .cells [.sl 1 (List.map c_u8 r.2.1.b) 0, .int .i64 r.2.1.at_]) :: (q1, .cells [.int .i64 r.2.2.Kind, .int .i64 r.2.2.At, .str r.2.2.Name, mslO 2 b1_3' r.2.2.Pairs, .str r.2.2.Text, .int .i64 r.2.2.Refs]) :: mo b1_3' c_T_scan_Pair r.2.2.Pairs :: O) ∧ h' = Hp h ((q0, .cells [.sl 1 (List.map c_u8 r.2.1.b) 0, .int .i64 r.2.1.at_]) :: (q1, .cells [.int .i64 r.2.2.Kind, .int .i64 r.2.2.At, .str r.2.2.Name, mslO 2 b1_3' r.2.2.Pairs, .str r.2.2.Text, .int .i64 r.2.2.Refs]) :: mo b1_3' c_T_scan_Pair r.2.2.Pairs :: O) := by
 refine CallsA.ret (C_bodyO Tryd.func36 rfl en_36 Tryd.ntmps36 rfl ?_)
 rw [F_scan_scanner_text] at hF
 refine C_seq (C_reg (mdl []) (S_a (v := .int _ _) rfl (S_nil (C_seq (C_reg (mdl []) (S_m (v := .ptr _ _) rfl (S_nilc (v := .ptr _ _) rfl rfl (S_faP rfl ty_fd_30_0 ty_sz_3 (S_st (j := 1) (cs' := [.int .i64 (5 : Int), .int .i64 p1.At, .str p1.Name, mslO 2 b1_3 p1.Pairs, .str p1.Text, .int .i64 p1.Refs]) ok rfl rfl rfl hq1 rfl ty_sz_3 rfl rfl (fun ok => S_nil (C_seq ?_)))))))))))
 refine C_drw (mdl []) (by kernel_rfl) (by kernel_rfl) ?_
 refine S_m (v := .ptr _ _) rfl (S_nilc (v := .ptr _ _) rfl rfl (S_faP rfl ty_fd_54_0 ty_sz_22 (S_ldP (j := 0) ok rfl rfl rfl hq0 (p_one (v := .sl 1 (List.map c_u8 p0.b) 0) ty_ag_22 ty_sz_22 rfl) (S_m (v := .ptr _ _) rfl (S_nilc (v := .ptr _ _) rfl rfl (S_faP rfl ty_fd_54_1 ty_sz_3 (S_ldP (j := 0) ok rfl rfl rfl hq0 (p_one (v := .int .i64 p0.at_) ty_ag_3 ty_sz_3 rfl) (S_slL rfl ty_sl_22 ty_sz_5 (bd_at rfl) bd_len hF (fun x1 _ hF => S_a (v := .sl _ _ _) rfl (S_nil ?_))))))))))
 refine C_join hF (fun (a5 : (List UInt8)) s' => OK h ((q0, .cells [.sl 1 (List.map c_u8 p0.b) 0, .int .i64 p0.at_]) :: (q1, .cells [.int .i64 (5 : Int), .int .i64 p1.At, .str p1.Name, mslO 2 b1_3 p1.Pairs, .str p1.Text, .int .i64 p1.Refs]) :: mo b1_3 c_T_scan_Pair p1.Pairs :: O) ∧ WS s' ⟨mkSl 56 [(0, .ptr q0 0), (1, .ptr q1 0), (5, .sl 1 (List.map c_u8 a5) 0)], Hp h ((q0, .cells [.sl 1 (List.map c_u8 p0.b) 0, .int .i64 p0.at_]) :: (q1, .cells [.int .i64 (5 : Int), .int .i64 p1.At, .str p1.Name, mslO 2 b1_3 p1.Pairs, .str p1.Text, .int .i64 p1.Refs]) :: mo b1_3 c_T_scan_Pair p1.Pairs :: O)⟩) (fun J6 hF => ?_) ?_
 ·
  refine C_seq (C_reg (mdl []) (S_m (v := .sl _ _ _) rfl (S_call (L_bIndexByte_ok _ hF fun x7 _ hF => (S_a (v := .int _ _) rfl (S_nil (C_seq (C_reg (mdl []) (S_m (v := .int _ _) rfl (S_bin rfl rfl (ev_geq ..) (S_nil ?_)))))))) (.cons (.refl _) (.cons (.refl _) (.nil))))))
  refine C_if (b := (decide ((0 : Int) ≤ x7))) rfl hF (fun hb8 hF => ?_) (fun hb8 hF => ?_)
  ·
   refine C_reg (mdl []) (S_m (v := .sl _ _ _) rfl (S_m (v := .int _ _) rfl (S_slL rfl ty_sl_22 ty_sz_5 bd_no (bd_at rfl) hF (fun x9 _ hF => S_a (v := .sl _ _ _) rfl (S_nil ?_)))))
   have hwo : WO ((q0, .cells [.sl 1 (List.map c_u8 p0.b) 0, .int .i64 p0.at_]) :: (q1, .cells [.int .i64 (5 : Int), .int .i64 p1.At, .str p1.Name, mslO 2 b1_3 p1.Pairs, .str p1.Text, .int .i64 p1.Refs]) :: mo b1_3 c_T_scan_Pair p1.Pairs :: O) ((q0, .cells [.sl 1 (List.map c_u8 p0.b) 0, .int .i64 p0.at_]) :: (q1, .cells [.int .i64 (5 : Int), .int .i64 p1.At, .str p1.Name, mslO 2 b1_3 p1.Pairs, .str p1.Text, .int .i64 p1.Refs]) :: mo b1_3 c_T_scan_Pair p1.Pairs :: O) := (.keep (.keep (.keep (.refl O))))
   exact ⟨x9, hF, (hwo.spec ok).1, WS.mk' (.cons (.refl _) (.cons (.refl _) (.cons (.refl _) .nil))) ok hwo⟩
  ·
   refine WP_skip ?_
   have hwo : WO ((q0, .cells [.sl 1 (List.map c_u8 p0.b) 0, .int .i64 p0.at_]) :: (q1, .cells [.int .i64 (5 : Int), .int .i64 p1.At, .str p1.Name, mslO 2 b1_3 p1.Pairs, .str p1.Text, .int .i64 p1.Refs]) :: mo b1_3 c_T_scan_Pair p1.Pairs :: O) ((q0, .cells [.sl 1 (List.map c_u8 p0.b) 0, .int .i64 p0.at_]) :: (q1, .cells [.int .i64 (5 : Int), .int .i64 p1.At, .str p1.Name, mslO 2 b1_3 p1.Pairs, .str p1.Text, .int .i64 p1.Refs]) :: mo b1_3 c_T_scan_Pair p1.Pairs :: O) := (.keep (.keep (.keep (.refl O))))
   exact ⟨x1, hF, (hwo.spec ok).1, WS.mk' (.cons (.refl _) (.cons (.refl _) (.cons (.refl _) .nil))) ok hwo⟩
 ·
  rintro a5 s' hF ⟨ok, hws⟩
  refine WP_ws hws ?_
  clear hws s'
  refine C_seq (C_reg (mdl []) (S_m (v := .sl _ _ _) rfl (S_call (F_refer_ReadText_ok _ hF fun x10 _ hF => (S_m (v := .tup _) rfl (S_ext rfl rfl (S_ext rfl rfl (S_ext rfl rfl (S_a (v := .str _) rfl (S_a (v := .int _ _) rfl (S_a (v := .int _ _) rfl (S_nil (C_seq (C_reg (mdl [(39, 5), (40, 5)]) (S_m (v := .ptr _ _) rfl (S_m (v := .ptr _ _) rfl (S_m (v := .str _) rfl (S_m (v := .sl _ _ _) rfl ?_))))))))))))))) (.cons (.refl _) (.nil)))))
  refine S_lit5 (cs := [.int .u8 38]) ok rfl ty_el_22 rfl (by kernel_rfl) ?_
  intro i11 hi11 ok
  refine S_cvt (v := .sl 1 (List.map c_u8 ([38] : List UInt8)) 0) (by kernel_rfl) 0 ok rfl rfl hi11 rfl ty_sl_22 ty_ki_5 rfl rfl (fun ok => ?_)
  refine S_call (L_bCount_ok _ hF fun x13 _ hF => (S_nilc (v := .ptr _ _) rfl rfl (S_faP rfl ty_fd_30_4 ty_sz_9 (S_st (j := 2) (cs' := [.int .i64 (5 : Int), .int .i64 p1.At, .str p1.Name, mslO 2 b1_3 p1.Pairs, .str x10.1, .int .i64 p1.Refs]) ok rfl rfl rfl hq1 rfl ty_sz_9 rfl rfl (fun ok => S_nilc (v := .ptr _ _) rfl rfl (S_faP rfl ty_fd_30_5 ty_sz_3 (S_st (j := 2) (cs' := [.int .i64 (5 : Int), .int .i64 p1.At, .str p1.Name, mslO 2 b1_3 p1.Pairs, .str x10.1, .int .i64 x13]) ok rfl rfl rfl hq1 rfl ty_sz_3 rfl rfl (fun ok => S_nil (C_seq (C_reg (mdl []) (S_m (v := .ptr _ _) rfl (S_nilc (v := .ptr _ _) rfl rfl (S_faP rfl ty_fd_54_1 ty_sz_3 (S_ldP (j := 1) ok rfl rfl rfl hq0 (p_one (v := .int .i64 p0.at_) ty_ag_3 ty_sz_3 rfl) (S_m (v := .sl _ _ _) rfl (S_lenL rfl ty_sl_22 (S_bin rfl rfl (ev_add ..) (S_nilc (v := .ptr _ _) rfl rfl (S_faP rfl ty_fd_54_1 ty_sz_3 (S_st (j := 1) (cs' := [.sl 1 (List.map c_u8 p0.b) 0, .int .i64 (IntKind.wrap .i64 (p0.at_ + (a5.length : Int)))]) ok rfl rfl rfl hq0 rfl ty_sz_3 rfl rfl (fun ok => S_nil (C_seq (C_reg (mdl []) (S_m (v := .int _ _) rfl (S_a (v := .int _ _) rfl (S_nil (WP_ret ?_))))))))))))))))))))))))))) (.cons (.refl _) (.cons (.refl _) (.nil)))
  repeat (first | with_reducible refine Exit.sel_ret ?_ | with_reducible refine Exit.blk_ret ?_ | with_reducible refine Exit.jmp_ret ?_)
  have hwo : WO ((0, .room) :: (q0, .cells [.sl 1 (List.map c_u8 p0.b) 0, .int .i64 (IntKind.wrap .i64 (p0.at_ + (a5.length : Int)))]) :: (q1, .cells [.int .i64 (5 : Int), .int .i64 p1.At, .str p1.Name, mslO 2 b1_3 p1.Pairs, .str x10.1, .int .i64 x13]) :: mo b1_3 c_T_scan_Pair p1.Pairs :: O) ((q0, .cells [.sl 1 (List.map c_u8 p0.b) 0, .int .i64 (IntKind.wrap .i64 (p0.at_ + (a5.length : Int)))]) :: (q1, .cells [.int .i64 (5 : Int), .int .i64 p1.At, .str p1.Name, mslO 2 b1_3 p1.Pairs, .str x10.1, .int .i64 x13]) :: mo b1_3 c_T_scan_Pair p1.Pairs :: O) := (.drop (.keep (.keep (.keep (.refl O)))))
  refine C_ret (fn := Tryd.f36) rfl (.tmp (v := .int .i64 x10.2.2) rfl .nil) ?_
  exact ⟨_, _, (.refl _), (hwo.spec ok).2.2, _, F_some hF, rfl, b1_3, zb1_3, (hwo.spec ok).1, rfl⟩
theorem F_scan_scanner_text_ok {β : Type} {f0 : Int × T_scan_scanner × T_scan_Token → Option β} {G : β → Prop} {R : D → Heap → Prop} {p0 : T_scan_scanner} {p1 : T_scan_Token} {q0 : Nat} {q1 : Nat} {b1_3 : Nat} (h : Heap) (O : List (Nat × AObj)) (hq0 : q0 ≠ 0) (hq1 : q1 ≠ 0) (zb1_3 : b1_3 = 0 → p1.Pairs = []) (ok : OK h ((q0, .cells [.sl 1 (List.map c_u8 p0.b) 0, .int .i64 p0.at_]) :: (q1, .cells [.int .i64 p1.Kind, .int .i64 p1.At, .str p1.Name, mslO 2 b1_3 p1.Pairs, .str p1.Text, .int .i64 p1.Refs]) :: mo b1_3 c_T_scan_Pair p1.Pairs :: O)) (hF : OptP ((F_scan_scanner_text p0 p1).bind f0) G) (hk : ∀ r b1_3', F_scan_scanner_text p0 p1 = some r → (b1_3' = 0 → r.2.2.Pairs = []) → OK h ((q0, .cells [.sl 1 (List.map c_u8 r.2.1.b) 0, .int .i64 r.2.1.at_]) :: (q1, .cells [.int .i64 r.2.2.Kind, .int .i64 r.2.2.At, .str r.2.2.Name, mslO 2 b1_3' r.2.2.Pairs, .str r.2.2.Text, .int .i64 r.2.2.Refs]) :: mo b1_3' c_T_scan_Pair r.2.2.Pairs :: O) → OptP (f0 r) G → R (.int .i64 r.1) (Hp h ((q0, .cells [.sl 1 (List.map c_u8 r.2.1.b) 0, .int .i64 r.2.1.at_]) :: (q1, .cells [.int .i64 r.2.2.Kind, .int .i64 r.2.2.At, .str r.2.2.Name, mslO 2 b1_3' r.2.2.Pairs, .str r.2.2.Text, .int .i64 r.2.2.Refs]) :: mo b1_3' c_T_scan_Pair r.2.2.Pairs :: O))) : CallsA Tryd.prog 36 [.ptr q0 0, .ptr q1 0] (Hp h ((q0, .cells [.sl 1 (List.map c_u8 p0.b) 0, .int .i64 p0.at_]) :: (q1, .cells [.int .i64 p1.Kind, .int .i64 p1.At, .str p1.Name, mslO 2 b1_3 p1.Pairs, .str p1.Text, .int .i64 p1.Refs]) :: mo b1_3 c_T_scan_Pair p1.Pairs :: O)) R := by
 obtain ⟨r0, hr, hF⟩ := F_bind hF
 refine (F_scan_scanner_text_w (G := fun r => r = r0) p0 p1 q0 q1 b1_3 h O hq0 hq1 zb1_3 ok ⟨r0, hr, rfl⟩).mono ?_
 rintro _ _ ⟨r, rfl, rfl, b1_3', y0, ok', rfl⟩
 exact hk _ _ hr y0 ok' hF
theorem F_scan_scanner_token_w (p0 : T_scan_scanner) (p1 : T_scan_Token) (q0 : Nat) (q1 : Nat) (b1_3 : Nat) {G : Int × T_scan_scanner × T_scan_Token → Prop} (h : Heap) (O : List (Nat × AObj)) (hq0 : q0 ≠ 0) (hq1 : q1 ≠ 0) (zb1_3 : b1_3 = 0 → p1.Pairs = []) (ok : OK h ((q0, .cells [.sl 1 (List.map c_u8 p0.b) 0, .int .i64 p0.at_]) :: (q1, .cells [.int .i64 p1.Kind, .int .i64 p1.At, .str p1.Name, mslO 2 b1_3 p1.Pairs, .str p1.Text, .int .i64 p1.Refs]) :: mo b1_3 c_T_scan_Pair p1.Pairs :: O)) (hF : OptP (F_scan_scanner_token p0 p1) G) : CallsA Tryd.prog 18 [.ptr q0 0, .ptr q1 0] (Hp h ((q0, .cells [.sl 1 (List.map c_u8 p0.b) 0, .int .i64 p0.at_]) :: (q1, .cells [.int .i64 p1.Kind, .int .i64 p1.At, .str p1.Name, mslO 2 b1_3 p1.Pairs, .str p1.Text, .int .i64 p1.Refs]) :: mo b1_3 c_T_scan_Pair p1.Pairs :: O)) fun d h' => ∃ r, G r ∧ d = .int .i64 r.1 ∧ ∃ b1_3' : Nat, (b1_3' = 0 → r.2.2.Pairs = []) ∧ OK h ((q0, .cells [.sl 1 (List.map c_u8 r.2.1.b) 0, .int .i64 r.2.1.at_]) :: (q1, .cells [.int .i64 r.2.2.Kind, .int .i64 r.2.2.At, .str r.2.2.Name, mslO 2 b1_3' r.2.2.Pairs, .str r.2.2.Text, .int .i64 r.2.2.Refs]) :: mo b1_3' c_T_scan_Pair r.2.2.Pairs :: O) ∧ h' = Hp h ((q0, .cells [.sl 1 (List.map c_u8 r.2.1.b) 0, .int .i64 r.2.1.at_]) :: (q1, .cells [.int .i64 r.2.2.Kind, .int .i64 r.2.2.At, .str r.2.2.Name, mslO 2 b1_3' r.2.2.Pairs, .str r.2.2.Text, .int .i64 r.2.2.Refs]) :: mo b1_3' c_T_scan_Pair r.2.2.Pairs :: O) := by
 refine CallsA.ret (C_bodyO Tryd.func18 rfl en_18 Tryd.ntmps18 rfl ?_)
 rw [F_scan_scanner_token] at hF
 refine C_seq (C_reg (mdl []) (S_a (v := .int _ _) rfl (S_nil (C_seq (WP_block (C_seq (C_reg (mdl []) (S_m (v := .ptr _ _) rfl (S_nilc (v := .ptr _ _) rfl rfl (S_faP rfl ty_fd_54_1 ty_sz_3 (S_ldP (j := 0) ok rfl rfl rfl hq0 (p_one (v := .int .i64 p0.at_) ty_ag_3 ty_sz_3 rfl) (S_bin rfl rfl (ev_eql ..) (S_m (v := .bool _) rfl ?_)))))))))))))
 refine S_twoJ 3 15 hF (fun J2 hb1 hF => ?_) (fun J2 hb1 hF => ?_) (fun v3 hF => ?_)
 ·
  refine S_on rfl rfl hb1 (S_in (S_m (v := .ptr _ _) rfl (S_nil (S_on rfl rfl hb1 (S_in (S_call (F_scan_scanner_here_ok (p0 := p0) (q0 := q0) h ((q1, .cells [.int .i64 p1.Kind, .int .i64 p1.At, .str p1.Name, mslO 2 b1_3 p1.Pairs, .str p1.Text, .int .i64 p1.Refs]) :: mo b1_3 c_T_scan_Pair p1.Pairs :: O) hq0 ok hF fun x4 _  ok hF => (S_nil (S_pickT (v := .bool _) rfl hb1 rfl (S_nil ?_)))) (.cons (.refl _) (.cons (.refl _) (.nil)))))))))
  refine ⟨_, hF, .hd (.refl _) ?_⟩
  repeat (first | with_reducible exact WS.refl _ | refine WS.add ?_ rfl | exact WS.refl _)
 ·
  refine S_off rfl rfl hb1 (S_offD (S_off rfl rfl hb1 (S_offD (S_pickF (v := .bool _) rfl hb1 rfl (S_nil ?_)))))
  refine ⟨_, hF, .hd (.refl _) ?_⟩
  repeat (first | with_reducible exact WS.refl _ | refine WS.add ?_ rfl | exact WS.refl _)
 ·
  refine S_m (v := .bool _) rfl ?_
  refine S_twoJ 4 20 hF (fun J6 hb5 hF => ?_) (fun J6 hb5 hF => ?_) (fun v7 hF => ?_)
  ·
   refine S_on rfl rfl hb5 (S_in (S_m (v := .ptr _ _) rfl (S_nil (S_on rfl rfl hb5 (S_in (S_call (F_scan_scanner_spaces_ok (p0 := p0) (q0 := q0) h ((q1, .cells [.int .i64 p1.Kind, .int .i64 p1.At, .str p1.Name, mslO 2 b1_3 p1.Pairs, .str p1.Text, .int .i64 p1.Refs]) :: mo b1_3 c_T_scan_Pair p1.Pairs :: O) hq0 ok hF fun x8 _  ok hF => (S_nil (S_on rfl rfl hb5 (S_in (S_bin rfl rfl (ev_gtr ..) (S_nil (S_pickT (v := .bool _) rfl hb5 rfl (S_nil ?_)))))))) (.cons (.refl _) (.cons (.refl _) (.nil)))))))))
   refine ⟨_, hF, .hd (.refl _) ?_⟩
   repeat (first | with_reducible exact WS.refl _ | refine WS.add ?_ rfl | exact WS.refl _)
  ·
   refine S_off rfl rfl hb5 (S_offD (S_off rfl rfl hb5 (S_offD (S_off rfl rfl hb5 (S_offD (S_pickF (v := .bool _) rfl hb5 rfl (S_nil ?_)))))))
   refine ⟨_, hF, .hd (.refl _) ?_⟩
   repeat (first | with_reducible exact WS.refl _ | refine WS.add ?_ rfl | exact WS.refl _)
  ·
   refine S_a (v := .bool _) rfl (S_nil ?_)
   refine C_if (b := v7) rfl hF (fun hb9 hF => ?_) (fun hb9 hF => ?_)
   ·
    refine C_seq (C_reg (mdl []) (S_m (v := .ptr _ _) rfl (S_m (v := .ptr _ _) rfl ?_)))
    obtain ⟨hpe, ok⟩ := Hp_pull 2 ok rfl
    rw [hpe]; clear hpe
    obtain ⟨hpe, ok⟩ := Hp_pull 2 ok rfl
    rw [hpe]; clear hpe
    obtain ⟨hpe, ok⟩ := Hp_pull 2 ok rfl
    rw [hpe]; clear hpe
    refine S_call (F_scan_scanner_decl_ok (p0 := p0) (p1 := p1) (q0 := q0) (q1 := q1) (b1_3 := b1_3) h (O) hq0 hq1 zb1_3 ok hF fun x10 u11 _ zu11 ok hF => (S_a (v := .int _ _) rfl (S_nil (WP_ret ?_)))) (.cons (.refl _) (.cons (.refl _) (.nil)))
    repeat (first | with_reducible refine Exit.sel_ret ?_ | with_reducible refine Exit.blk_ret ?_ | with_reducible refine Exit.jmp_ret ?_)
    have hwo : WO ((q0, .cells [.sl 1 (List.map c_u8 x10.2.1.b) 0, .int .i64 x10.2.1.at_]) :: (q1, .cells [.int .i64 x10.2.2.Kind, .int .i64 x10.2.2.At, .str x10.2.2.Name, mslO 2 u11 x10.2.2.Pairs, .str x10.2.2.Text, .int .i64 x10.2.2.Refs]) :: mo u11 c_T_scan_Pair x10.2.2.Pairs :: O) ((q0, .cells [.sl 1 (List.map c_u8 x10.2.1.b) 0, .int .i64 x10.2.1.at_]) :: (q1, .cells [.int .i64 x10.2.2.Kind, .int .i64 x10.2.2.At, .str x10.2.2.Name, mslO 2 u11 x10.2.2.Pairs, .str x10.2.2.Text, .int .i64 x10.2.2.Refs]) :: mo u11 c_T_scan_Pair x10.2.2.Pairs :: O) := (.keep (.keep (.keep (.refl O))))
    refine C_ret (fn := Tryd.f18) rfl (.tmp (v := .int .i64 x10.1) rfl .nil) ?_
    exact ⟨_, _, (.refl _), (hwo.spec ok).2.2, _, F_some hF, rfl, u11, zu11, (hwo.spec ok).1, rfl⟩
   ·
    refine C_seq (C_reg (mdl []) (S_m (v := .ptr _ _) rfl (S_call (F_scan_scanner_here_ok (p0 := p0) (q0 := q0) h ((q1, .cells [.int .i64 p1.Kind, .int .i64 p1.At, .str p1.Name, mslO 2 b1_3 p1.Pairs, .str p1.Text, .int .i64 p1.Refs]) :: mo b1_3 c_T_scan_Pair p1.Pairs :: O) hq0 ok hF fun x12 _  ok hF => (S_a (v := .bool _) rfl (S_nil ?_))) (.cons (.refl _) (.cons (.refl _) (.nil))))))
    refine C_if (b := x12) rfl hF (fun hb13 hF => ?_) (fun hb13 hF => ?_)
    ·
     refine C_seq (C_reg (mdl []) (S_m (v := .ptr _ _) rfl (S_nilc (v := .ptr _ _) rfl rfl (S_faP rfl ty_fd_30_0 ty_sz_3 (S_st (j := 1) (cs' := [.int .i64 (7 : Int), .int .i64 p1.At, .str p1.Name, mslO 2 b1_3 p1.Pairs, .str p1.Text, .int .i64 p1.Refs]) ok rfl rfl rfl hq1 rfl ty_sz_3 rfl rfl (fun ok => S_nil (C_seq (C_seq (C_reg (mdl []) (S_m (v := .ptr _ _) rfl (S_m (v := .ptr _ _) rfl ?_)))))))))))
     obtain ⟨hpe, ok⟩ := Hp_pull 2 ok rfl
     rw [hpe]; clear hpe
     obtain ⟨hpe, ok⟩ := Hp_pull 2 ok rfl
     rw [hpe]; clear hpe
     obtain ⟨hpe, ok⟩ := Hp_pull 2 ok rfl
     rw [hpe]; clear hpe
     refine S_call (F_scan_scanner_upTo_ok (p0 := p0) (p1 := (⟨(7 : Int), p1.At, p1.Name, p1.Pairs, p1.Text, p1.Refs⟩ : T_scan_Token)) (q0 := q0) (q1 := q1) (b1_3 := b1_3) h (O) hq0 hq1 zb1_3 ok hF fun x14 u15 _ zu15 ok hF => (S_a (v := .int _ _) rfl (S_nil (C_seq (C_reg (mdl []) (S_m (v := .int _ _) rfl (S_bin rfl rfl (ev_neq ..) (S_nil ?_)))))))) (.cons (.refl _) (.cons (.refl _) (.cons (.refl _) (.cons (.refl _) (.nil)))))
     refine C_if (b := (x14.1 != (0 : Int))) rfl hF (fun hb16 hF => ?_) (fun hb16 hF => ?_)
     ·
      refine C_seq (C_reg (mdl []) (S_m (v := .int _ _) rfl (S_a (v := .int _ _) rfl (S_nil (WP_ret ?_)))))
      repeat (first | with_reducible refine Exit.sel_ret ?_ | with_reducible refine Exit.blk_ret ?_ | with_reducible refine Exit.jmp_ret ?_)
      have hwo : WO ((q0, .cells [.sl 1 (List.map c_u8 x14.2.1.b) 0, .int .i64 x14.2.1.at_]) :: (q1, .cells [.int .i64 x14.2.2.Kind, .int .i64 x14.2.2.At, .str x14.2.2.Name, mslO 2 u15 x14.2.2.Pairs, .str x14.2.2.Text, .int .i64 x14.2.2.Refs]) :: mo u15 c_T_scan_Pair x14.2.2.Pairs :: O) ((q0, .cells [.sl 1 (List.map c_u8 x14.2.1.b) 0, .int .i64 x14.2.1.at_]) :: (q1, .cells [.int .i64 x14.2.2.Kind, .int .i64 x14.2.2.At, .str x14.2.2.Name, mslO 2 u15 x14.2.2.Pairs, .str x14.2.2.Text, .int .i64 x14.2.2.Refs]) :: mo u15 c_T_scan_Pair x14.2.2.Pairs :: O) := (.keep (.keep (.keep (.refl O))))
      refine C_ret (fn := Tryd.f18) rfl (.tmp (v := .int .i64 x14.1) rfl .nil) ?_
      exact ⟨_, _, (.refl _), (hwo.spec ok).2.2, _, F_some hF, rfl, u15, zu15, (hwo.spec ok).1, rfl⟩
     ·
      refine WP_skip (C_seq (C_reg (mdl []) (S_m (v := .ptr _ _) rfl (S_call (F_scan_scanner_sign_ok (p0 := x14.2.1) (q0 := q0) h ((q1, .cells [.int .i64 x14.2.2.Kind, .int .i64 x14.2.2.At, .str x14.2.2.Name, mslO 2 u15 x14.2.2.Pairs, .str x14.2.2.Text, .int .i64 x14.2.2.Refs]) :: mo u15 c_T_scan_Pair x14.2.2.Pairs :: O) hq0 ok hF fun x17 _  ok hF => (S_a (v := .int _ _) rfl (S_nil (WP_ret ?_)))) (.cons (.refl _) (.cons (.refl _) (.nil)))))))
      repeat (first | with_reducible refine Exit.sel_ret ?_ | with_reducible refine Exit.blk_ret ?_ | with_reducible refine Exit.jmp_ret ?_)
      have hwo : WO ((q0, .cells [.sl 1 (List.map c_u8 x17.2.b) 0, .int .i64 x17.2.at_]) :: (q1, .cells [.int .i64 x14.2.2.Kind, .int .i64 x14.2.2.At, .str x14.2.2.Name, mslO 2 u15 x14.2.2.Pairs, .str x14.2.2.Text, .int .i64 x14.2.2.Refs]) :: mo u15 c_T_scan_Pair x14.2.2.Pairs :: O) ((q0, .cells [.sl 1 (List.map c_u8 x17.2.b) 0, .int .i64 x17.2.at_]) :: (q1, .cells [.int .i64 x14.2.2.Kind, .int .i64 x14.2.2.At, .str x14.2.2.Name, mslO 2 u15 x14.2.2.Pairs, .str x14.2.2.Text, .int .i64 x14.2.2.Refs]) :: mo u15 c_T_scan_Pair x14.2.2.Pairs :: O) := (.keep (.keep (.keep (.refl O))))
      refine C_ret (fn := Tryd.f18) rfl (.tmp (v := .int .i64 x17.1) rfl .nil) ?_
      exact ⟨_, _, (.refl _), (hwo.spec ok).2.2, _, F_some hF, rfl, u15, zu15, (hwo.spec ok).1, rfl⟩
    ·
     refine C_seq (C_reg (mdl []) (S_m (v := .ptr _ _) rfl (S_call (F_scan_scanner_here_ok (p0 := p0) (q0 := q0) h ((q1, .cells [.int .i64 p1.Kind, .int .i64 p1.At, .str p1.Name, mslO 2 b1_3 p1.Pairs, .str p1.Text, .int .i64 p1.Refs]) :: mo b1_3 c_T_scan_Pair p1.Pairs :: O) hq0 ok hF fun x18 _  ok hF => (S_a (v := .bool _) rfl (S_nil ?_))) (.cons (.refl _) (.cons (.refl _) (.nil))))))
     refine C_if (b := x18) rfl hF (fun hb19 hF => ?_) (fun hb19 hF => ?_)
     ·
      refine C_seq (C_reg (mdl []) (S_m (v := .ptr _ _) rfl (S_nilc (v := .ptr _ _) rfl rfl (S_faP rfl ty_fd_30_0 ty_sz_3 (S_st (j := 1) (cs' := [.int .i64 (6 : Int), .int .i64 p1.At, .str p1.Name, mslO 2 b1_3 p1.Pairs, .str p1.Text, .int .i64 p1.Refs]) ok rfl rfl rfl hq1 rfl ty_sz_3 rfl rfl (fun ok => S_nil (C_seq (C_reg (mdl []) (S_m (v := .ptr _ _) rfl (S_m (v := .ptr _ _) rfl ?_))))))))))
      obtain ⟨hpe, ok⟩ := Hp_pull 2 ok rfl
      rw [hpe]; clear hpe
      obtain ⟨hpe, ok⟩ := Hp_pull 2 ok rfl
      rw [hpe]; clear hpe
      obtain ⟨hpe, ok⟩ := Hp_pull 2 ok rfl
      rw [hpe]; clear hpe
      refine S_call (F_scan_scanner_upTo_ok (p0 := p0) (p1 := (⟨(6 : Int), p1.At, p1.Name, p1.Pairs, p1.Text, p1.Refs⟩ : T_scan_Token)) (q0 := q0) (q1 := q1) (b1_3 := b1_3) h (O) hq0 hq1 zb1_3 ok hF fun x20 u21 _ zu21 ok hF => (S_a (v := .int _ _) rfl (S_nil (WP_ret ?_)))) (.cons (.refl _) (.cons (.refl _) (.cons (.refl _) (.cons (.refl _) (.nil)))))
      repeat (first | with_reducible refine Exit.sel_ret ?_ | with_reducible refine Exit.blk_ret ?_ | with_reducible refine Exit.jmp_ret ?_)
      have hwo : WO ((q0, .cells [.sl 1 (List.map c_u8 x20.2.1.b) 0, .int .i64 x20.2.1.at_]) :: (q1, .cells [.int .i64 x20.2.2.Kind, .int .i64 x20.2.2.At, .str x20.2.2.Name, mslO 2 u21 x20.2.2.Pairs, .str x20.2.2.Text, .int .i64 x20.2.2.Refs]) :: mo u21 c_T_scan_Pair x20.2.2.Pairs :: O) ((q0, .cells [.sl 1 (List.map c_u8 x20.2.1.b) 0, .int .i64 x20.2.1.at_]) :: (q1, .cells [.int .i64 x20.2.2.Kind, .int .i64 x20.2.2.At, .str x20.2.2.Name, mslO 2 u21 x20.2.2.Pairs, .str x20.2.2.Text, .int .i64 x20.2.2.Refs]) :: mo u21 c_T_scan_Pair x20.2.2.Pairs :: O) := (.keep (.keep (.keep (.refl O))))
      refine C_ret (fn := Tryd.f18) rfl (.tmp (v := .int .i64 x20.1) rfl .nil) ?_
      exact ⟨_, _, (.refl _), (hwo.spec ok).2.2, _, F_some hF, rfl, u21, zu21, (hwo.spec ok).1, rfl⟩
     ·
      refine C_seq (C_reg (mdl []) (S_m (v := .ptr _ _) rfl (S_call (F_scan_scanner_here_ok (p0 := p0) (q0 := q0) h ((q1, .cells [.int .i64 p1.Kind, .int .i64 p1.At, .str p1.Name, mslO 2 b1_3 p1.Pairs, .str p1.Text, .int .i64 p1.Refs]) :: mo b1_3 c_T_scan_Pair p1.Pairs :: O) hq0 ok hF fun x22 _  ok hF => (S_a (v := .bool _) rfl (S_nil ?_))) (.cons (.refl _) (.cons (.refl _) (.nil))))))
      refine C_if (b := x22) rfl hF (fun hb23 hF => ?_) (fun hb23 hF => ?_)
      ·
       refine C_seq (C_reg (mdl []) (S_a (v := .int _ _) rfl (S_nil (WP_ret ?_))))
       repeat (first | with_reducible refine Exit.sel_ret ?_ | with_reducible refine Exit.blk_ret ?_ | with_reducible refine Exit.jmp_ret ?_)
       have hwo : WO ((q0, .cells [.sl 1 (List.map c_u8 p0.b) 0, .int .i64 p0.at_]) :: (q1, .cells [.int .i64 p1.Kind, .int .i64 p1.At, .str p1.Name, mslO 2 b1_3 p1.Pairs, .str p1.Text, .int .i64 p1.Refs]) :: mo b1_3 c_T_scan_Pair p1.Pairs :: O) ((q0, .cells [.sl 1 (List.map c_u8 p0.b) 0, .int .i64 p0.at_]) :: (q1, .cells [.int .i64 p1.Kind, .int .i64 p1.At, .str p1.Name, mslO 2 b1_3 p1.Pairs, .str p1.Text, .int .i64 p1.Refs]) :: mo b1_3 c_T_scan_Pair p1.Pairs :: O) := (.keep (.keep (.keep (.refl O))))
       refine C_ret (fn := Tryd.f18) rfl (.tmp (v := .int .i64 (25 : Int)) rfl .nil) ?_
       exact ⟨_, _, (.refl _), (hwo.spec ok).2.2, _, F_some hF, rfl, b1_3, zb1_3, (hwo.spec ok).1, rfl⟩
      ·
       refine C_seq (C_reg (mdl []) (S_m (v := .ptr _ _) rfl (S_call (F_scan_scanner_here_ok (p0 := p0) (q0 := q0) h ((q1, .cells [.int .i64 p1.Kind, .int .i64 p1.At, .str p1.Name, mslO 2 b1_3 p1.Pairs, .str p1.Text, .int .i64 p1.Refs]) :: mo b1_3 c_T_scan_Pair p1.Pairs :: O) hq0 ok hF fun x24 _  ok hF => (S_a (v := .bool _) rfl (S_nil ?_))) (.cons (.refl _) (.cons (.refl _) (.nil))))))
       refine C_if (b := x24) rfl hF (fun hb25 hF => ?_) (fun hb25 hF => ?_)
       ·
        refine C_seq (C_reg (mdl []) (S_a (v := .int _ _) rfl (S_nil (WP_ret ?_))))
        repeat (first | with_reducible refine Exit.sel_ret ?_ | with_reducible refine Exit.blk_ret ?_ | with_reducible refine Exit.jmp_ret ?_)
        have hwo : WO ((q0, .cells [.sl 1 (List.map c_u8 p0.b) 0, .int .i64 p0.at_]) :: (q1, .cells [.int .i64 p1.Kind, .int .i64 p1.At, .str p1.Name, mslO 2 b1_3 p1.Pairs, .str p1.Text, .int .i64 p1.Refs]) :: mo b1_3 c_T_scan_Pair p1.Pairs :: O) ((q0, .cells [.sl 1 (List.map c_u8 p0.b) 0, .int .i64 p0.at_]) :: (q1, .cells [.int .i64 p1.Kind, .int .i64 p1.At, .str p1.Name, mslO 2 b1_3 p1.Pairs, .str p1.Text, .int .i64 p1.Refs]) :: mo b1_3 c_T_scan_Pair p1.Pairs :: O) := (.keep (.keep (.keep (.refl O))))
        refine C_ret (fn := Tryd.f18) rfl (.tmp (v := .int .i64 (23 : Int)) rfl .nil) ?_
        exact ⟨_, _, (.refl _), (hwo.spec ok).2.2, _, F_some hF, rfl, b1_3, zb1_3, (hwo.spec ok).1, rfl⟩
       ·
        refine C_seq (C_reg (mdl []) (S_m (v := .ptr _ _) rfl (S_call (F_scan_scanner_here_ok (p0 := p0) (q0 := q0) h ((q1, .cells [.int .i64 p1.Kind, .int .i64 p1.At, .str p1.Name, mslO 2 b1_3 p1.Pairs, .str p1.Text, .int .i64 p1.Refs]) :: mo b1_3 c_T_scan_Pair p1.Pairs :: O) hq0 ok hF fun x26 _  ok hF => (S_a (v := .bool _) rfl (S_nil ?_))) (.cons (.refl _) (.cons (.refl _) (.nil))))))
        refine C_if (b := x26) rfl hF (fun hb27 hF => ?_) (fun hb27 hF => ?_)
        ·
         refine C_seq (C_reg (mdl []) (S_m (v := .ptr _ _) rfl (S_m (v := .ptr _ _) rfl ?_)))
         obtain ⟨hpe, ok⟩ := Hp_pull 2 ok rfl
         rw [hpe]; clear hpe
         obtain ⟨hpe, ok⟩ := Hp_pull 2 ok rfl
         rw [hpe]; clear hpe
         obtain ⟨hpe, ok⟩ := Hp_pull 2 ok rfl
         rw [hpe]; clear hpe
         refine S_call (F_scan_scanner_instr_ok (p0 := p0) (p1 := p1) (q0 := q0) (q1 := q1) (b1_3 := b1_3) h (O) hq0 hq1 zb1_3 ok hF fun x28 u29 _ zu29 ok hF => (S_a (v := .int _ _) rfl (S_nil (WP_ret ?_)))) (.cons (.refl _) (.cons (.refl _) (.nil)))
         repeat (first | with_reducible refine Exit.sel_ret ?_ | with_reducible refine Exit.blk_ret ?_ | with_reducible refine Exit.jmp_ret ?_)
         have hwo : WO ((q0, .cells [.sl 1 (List.map c_u8 x28.2.1.b) 0, .int .i64 x28.2.1.at_]) :: (q1, .cells [.int .i64 x28.2.2.Kind, .int .i64 x28.2.2.At, .str x28.2.2.Name, mslO 2 u29 x28.2.2.Pairs, .str x28.2.2.Text, .int .i64 x28.2.2.Refs]) :: mo u29 c_T_scan_Pair x28.2.2.Pairs :: O) ((q0, .cells [.sl 1 (List.map c_u8 x28.2.1.b) 0, .int .i64 x28.2.1.at_]) :: (q1, .cells [.int .i64 x28.2.2.Kind, .int .i64 x28.2.2.At, .str x28.2.2.Name, mslO 2 u29 x28.2.2.Pairs, .str x28.2.2.Text, .int .i64 x28.2.2.Refs]) :: mo u29 c_T_scan_Pair x28.2.2.Pairs :: O) := (.keep (.keep (.keep (.refl O))))
         refine C_ret (fn := Tryd.f18) rfl (.tmp (v := .int .i64 x28.1) rfl .nil) ?_
         exact ⟨_, _, (.refl _), (hwo.spec ok).2.2, _, F_some hF, rfl, u29, zu29, (hwo.spec ok).1, rfl⟩
        ·
         refine C_seq (C_reg (mdl []) (S_m (v := .ptr _ _) rfl (S_call (F_scan_scanner_here_ok (p0 := p0) (q0 := q0) h ((q1, .cells [.int .i64 p1.Kind, .int .i64 p1.At, .str p1.Name, mslO 2 b1_3 p1.Pairs, .str p1.Text, .int .i64 p1.Refs]) :: mo b1_3 c_T_scan_Pair p1.Pairs :: O) hq0 ok hF fun x30 _  ok hF => (S_a (v := .bool _) rfl (S_nil ?_))) (.cons (.refl _) (.cons (.refl _) (.nil))))))
         refine C_if (b := x30) rfl hF (fun hb31 hF => ?_) (fun hb31 hF => ?_)
         ·
          refine C_seq (C_reg (mdl []) (S_m (v := .ptr _ _) rfl (S_m (v := .ptr _ _) rfl ?_)))
          obtain ⟨hpe, ok⟩ := Hp_pull 2 ok rfl
          rw [hpe]; clear hpe
          obtain ⟨hpe, ok⟩ := Hp_pull 2 ok rfl
          rw [hpe]; clear hpe
          obtain ⟨hpe, ok⟩ := Hp_pull 2 ok rfl
          rw [hpe]; clear hpe
          refine S_call (F_scan_scanner_closing_ok (p0 := p0) (p1 := p1) (q0 := q0) (q1 := q1) (b1_3 := b1_3) h (O) hq0 hq1 zb1_3 ok hF fun x32 u33 _ zu33 ok hF => (S_a (v := .int _ _) rfl (S_nil (WP_ret ?_)))) (.cons (.refl _) (.cons (.refl _) (.nil)))
          repeat (first | with_reducible refine Exit.sel_ret ?_ | with_reducible refine Exit.blk_ret ?_ | with_reducible refine Exit.jmp_ret ?_)
          have hwo : WO ((q0, .cells [.sl 1 (List.map c_u8 x32.2.1.b) 0, .int .i64 x32.2.1.at_]) :: (q1, .cells [.int .i64 x32.2.2.Kind, .int .i64 x32.2.2.At, .str x32.2.2.Name, mslO 2 u33 x32.2.2.Pairs, .str x32.2.2.Text, .int .i64 x32.2.2.Refs]) :: mo u33 c_T_scan_Pair x32.2.2.Pairs :: O) ((q0, .cells [.sl 1 (List.map c_u8 x32.2.1.b) 0, .int .i64 x32.2.1.at_]) :: (q1, .cells [.int .i64 x32.2.2.Kind, .int .i64 x32.2.2.At, .str x32.2.2.Name, mslO 2 u33 x32.2.2.Pairs, .str x32.2.2.Text, .int .i64 x32.2.2.Refs]) :: mo u33 c_T_scan_Pair x32.2.2.Pairs :: O) := (.keep (.keep (.keep (.refl O))))
          refine C_ret (fn := Tryd.f18) rfl (.tmp (v := .int .i64 x32.1) rfl .nil) ?_
          exact ⟨_, _, (.refl _), (hwo.spec ok).2.2, _, F_some hF, rfl, u33, zu33, (hwo.spec ok).1, rfl⟩
         ·
          refine C_seq (C_reg (mdl []) (S_m (v := .ptr _ _) rfl (S_call (F_scan_scanner_here_ok (p0 := p0) (q0 := q0) h ((q1, .cells [.int .i64 p1.Kind, .int .i64 p1.At, .str p1.Name, mslO 2 b1_3 p1.Pairs, .str p1.Text, .int .i64 p1.Refs]) :: mo b1_3 c_T_scan_Pair p1.Pairs :: O) hq0 ok hF fun x34 _  ok hF => (S_a (v := .bool _) rfl (S_nil ?_))) (.cons (.refl _) (.cons (.refl _) (.nil))))))
          refine C_if (b := x34) rfl hF (fun hb35 hF => ?_) (fun hb35 hF => ?_)
          ·
           refine C_seq (C_reg (mdl []) (S_m (v := .ptr _ _) rfl (S_m (v := .ptr _ _) rfl ?_)))
           obtain ⟨hpe, ok⟩ := Hp_pull 2 ok rfl
           rw [hpe]; clear hpe
           obtain ⟨hpe, ok⟩ := Hp_pull 2 ok rfl
           rw [hpe]; clear hpe
           obtain ⟨hpe, ok⟩ := Hp_pull 2 ok rfl
           rw [hpe]; clear hpe
           refine S_call (F_scan_scanner_tag_ok (p0 := p0) (p1 := p1) (q0 := q0) (q1 := q1) (b1_3 := b1_3) h (O) hq0 hq1 zb1_3 ok hF fun x36 u37 _ zu37 ok hF => (S_a (v := .int _ _) rfl (S_nil (WP_ret ?_)))) (.cons (.refl _) (.cons (.refl _) (.nil)))
           repeat (first | with_reducible refine Exit.sel_ret ?_ | with_reducible refine Exit.blk_ret ?_ | with_reducible refine Exit.jmp_ret ?_)
           have hwo : WO ((q0, .cells [.sl 1 (List.map c_u8 x36.2.1.b) 0, .int .i64 x36.2.1.at_]) :: (q1, .cells [.int .i64 x36.2.2.Kind, .int .i64 x36.2.2.At, .str x36.2.2.Name, mslO 2 u37 x36.2.2.Pairs, .str x36.2.2.Text, .int .i64 x36.2.2.Refs]) :: mo u37 c_T_scan_Pair x36.2.2.Pairs :: O) ((q0, .cells [.sl 1 (List.map c_u8 x36.2.1.b) 0, .int .i64 x36.2.1.at_]) :: (q1, .cells [.int .i64 x36.2.2.Kind, .int .i64 x36.2.2.At, .str x36.2.2.Name, mslO 2 u37 x36.2.2.Pairs, .str x36.2.2.Text, .int .i64 x36.2.2.Refs]) :: mo u37 c_T_scan_Pair x36.2.2.Pairs :: O) := (.keep (.keep (.keep (.refl O))))
           refine C_ret (fn := Tryd.f18) rfl (.tmp (v := .int .i64 x36.1) rfl .nil) ?_
           exact ⟨_, _, (.refl _), (hwo.spec ok).2.2, _, F_some hF, rfl, u37, zu37, (hwo.spec ok).1, rfl⟩
          ·
           refine WP_skip (C_seq (C_reg (mdl []) (S_m (v := .ptr _ _) rfl (S_m (v := .ptr _ _) rfl ?_))))
           obtain ⟨hpe, ok⟩ := Hp_pull 2 ok rfl
           rw [hpe]; clear hpe
           obtain ⟨hpe, ok⟩ := Hp_pull 2 ok rfl
           rw [hpe]; clear hpe
           obtain ⟨hpe, ok⟩ := Hp_pull 2 ok rfl
           rw [hpe]; clear hpe
           refine S_call (F_scan_scanner_text_ok (p0 := p0) (p1 := p1) (q0 := q0) (q1 := q1) (b1_3 := b1_3) h (O) hq0 hq1 zb1_3 ok hF fun x38 u39 _ zu39 ok hF => (S_a (v := .int _ _) rfl (S_nil (WP_ret ?_)))) (.cons (.refl _) (.cons (.refl _) (.nil)))
           repeat (first | with_reducible refine Exit.sel_ret ?_ | with_reducible refine Exit.blk_ret ?_ | with_reducible refine Exit.jmp_ret ?_)
           have hwo : WO ((q0, .cells [.sl 1 (List.map c_u8 x38.2.1.b) 0, .int .i64 x38.2.1.at_]) :: (q1, .cells [.int .i64 x38.2.2.Kind, .int .i64 x38.2.2.At, .str x38.2.2.Name, mslO 2 u39 x38.2.2.Pairs, .str x38.2.2.Text, .int .i64 x38.2.2.Refs]) :: mo u39 c_T_scan_Pair x38.2.2.Pairs :: O) ((q0, .cells [.sl 1 (List.map c_u8 x38.2.1.b) 0, .int .i64 x38.2.1.at_]) :: (q1, .cells [.int .i64 x38.2.2.Kind, .int .i64 x38.2.2.At, .str x38.2.2.Name, mslO 2 u39 x38.2.2.Pairs, .str x38.2.2.Text, .int .i64 x38.2.2.Refs]) :: mo u39 c_T_scan_Pair x38.2.2.Pairs :: O) := (.keep (.keep (.keep (.refl O))))
           refine C_ret (fn := Tryd.f18) rfl (.tmp (v := .int .i64 x38.1) rfl .nil) ?_
           exact ⟨_, _, (.refl _), (hwo.spec ok).2.2, _, F_some hF, rfl, u39, zu39, (hwo.spec ok).1, rfl⟩
theorem F_scan_scanner_token_ok {β : Type} {f0 : Int × T_scan_scanner × T_scan_Token → Option β} {G : β → Prop} {R : D → Heap → Prop} {p0 : T_scan_scanner} {p1 : T_scan_Token} {q0 : Nat} {q1 : Nat} {b1_3 : Nat} (h : Heap) (O : List (Nat × AObj)) (hq0 : q0 ≠ 0) (hq1 : q1 ≠ 0) (zb1_3 : b1_3 = 0 → p1.Pairs = []) (ok : OK h ((q0, .cells [.sl 1 (List.map c_u8 p0.b) 0, .int .i64 p0.at_]) :: (q1, .cells [.int .i64 p1.Kind, .int .i64 p1.At, .str p1.Name, mslO 2 b1_3 p1.Pairs, .str p1.Text, .int .i64 p1.Refs]) :: mo b1_3 c_T_scan_Pair p1.Pairs :: O)) (hF : OptP ((F_scan_scanner_token p0 p1).bind f0) G) (hk : ∀ r b1_3', F_scan_scanner_token p0 p1 = some r → (b1_3' = 0 → r.2.2.Pairs = []) → OK h ((q0, .cells [.sl 1 (List.map c_u8 r.2.1.b) 0, .int .i64 r.2.1.at_]) :: (q1, .cells [.int .i64 r.2.2.Kind, .int .i64 r.2.2.At, .str r.2.2.Name, mslO 2 b1_3' r.2.2.Pairs, .str r.2.2.Text, .int .i64 r.2.2.Refs]) :: mo b1_3' c_T_scan_Pair r.2.2.Pairs :: O) → OptP (f0 r) G → R (.int .i64 r.1) (Hp h ((q0, .cells [.sl 1 (List.map c_u8 r.2.1.b) 0, .int .i64 r.2.1.at_]) :: (q1, .cells [.int .i64 r.2.2.Kind, .int .i64 r.2.2.At, .str r.2.2.Name, mslO 2 b1_3' r.2.2.Pairs, .str r.2.2.Text, .int .i64 r.2.2.Refs]) :: mo b1_3' c_T_scan_Pair r.2.2.Pairs :: O))) : CallsA Tryd.prog 18 [.ptr q0 0, .ptr q1 0] (Hp h ((q0, .cells [.sl 1 (List.map c_u8 p0.b) 0, .int .i64 p0.at_]) :: (q1, .cells [.int .i64 p1.Kind, .int .i64 p1.At, .str p1.Name, mslO 2 b1_3 p1.Pairs, .str p1.Text, .int .i64 p1.Refs]) :: mo b1_3 c_T_scan_Pair p1.Pairs :: O)) R := by
 obtain ⟨r0, hr, hF⟩ := F_bind hF
 refine (F_scan_scanner_token_w (G := fun r => r = r0) p0 p1 q0 q1 b1_3 h O hq0 hq1 zb1_3 ok ⟨r0, hr, rfl⟩).mono ?_
 rintro _ _ ⟨r, rfl, rfl, b1_3', y0, ok', rfl⟩
 exact hk _ _ hr y0 ok' hF
theorem F_scan_All_w (p0 : List UInt8) {G : (List T_scan_Token) × Int × Int → Prop} (h : Heap) (hF : OptP (F_scan_All p0) G) : CallsA Tryd.prog 9 [.sl 1 (List.map c_u8 p0) 0] h fun d h' => ∃ r, G r ∧ d = .tup [.sl 6 (List.map c_T_scan_Token r.1) 0, .int .i64 r.2.1, .int .i64 r.2.2] ∧ h' = h := by
 refine CallsA.ret (C_body Tryd.func9 rfl en_9 Tryd.ntmps9 rfl (fun ok => ?_))
 rw [F_scan_All] at hF
 refine C_seq (C_reg (mdl []) (S_a (v := .snil) rfl (S_one 2 (v := .sl 6 (List.map c_T_scan_Token ([] : List T_scan_Token)) 0) (.nil _) (S_a (v := .int _ _) rfl (S_a (v := .int _ _) rfl (S_nil (WP_scope (JW_step (C_seq (C_seq (C_reg (mdl []) (S_m (v := .sl _ _ _) rfl (S_lenL rfl ty_sl_22 (S_bin rfl rfl (ev_gtr ..) (S_nil ?_)))))))))))))))
 refine C_if (b := (decide ((65536 : Int) < (p0.length : Int)))) rfl hF (fun hb1 hF => ?_) (fun hb1 hF => ?_)
 ·
  refine C_seq (C_reg (mdl []) (S_a (v := .snil) rfl (S_one 2 (v := .sl 6 (List.map c_T_scan_Token ([] : List T_scan_Token)) 0) (.nil _) (S_a (v := .int _ _) rfl (S_a (v := .int _ _) rfl (S_nil (WP_ret ?_)))))))
  repeat (first | with_reducible refine Exit.sel_ret ?_ | with_reducible refine Exit.blk_ret ?_ | with_reducible refine Exit.jmp_ret ?_)
  refine C_ret (fn := Tryd.f9) rfl (.tmp (v := .sl 6 (List.map c_T_scan_Token ([] : List T_scan_Token)) 0) rfl (.tmp (v := .int .i64 (0 : Int)) rfl (.tmp (v := .int .i64 (6 : Int)) rfl .nil))) ?_
  exact ⟨_, _, (.tupC (.cons (.refl _) (.cons (.refl _) (.cons (.refl _) (.nil))))), ok.wh, _, F_some hF, rfl, rfl⟩
 ·
  refine WP_skip (C_seq (C_reg (mdl [(18, 1)]) (S_m (v := .sl _ _ _) rfl (S_call (F_scan_Plain_ok _ hF fun x2 _ hF => (S_bld (v := .agg (c_T_scan_scanner (⟨x2, (0 : Int)⟩ : T_scan_scanner))) (b_st ty_zc_54 ty_pl_54 rfl) (S_box1 (cs := [.sl 1 (List.map c_u8 (⟨x2, (0 : Int)⟩ : T_scan_scanner).b) 0, .int .i64 (⟨x2, (0 : Int)⟩ : T_scan_scanner).at_]) ok rfl rfl rfl rfl ?_))) (.cons (.refl _) (.nil))))))
  intro i3 hi3 ok
  refine S_a (v := .ptr _ _) rfl (S_nil (C_seq (C_seq (C_reg (mdl []) (S_m (v := .ptr _ _) rfl (S_nilc (v := .ptr _ _) rfl rfl (S_faP rfl ty_fd_54_0 ty_sz_22 (S_ldP (j := 0) ok rfl rfl rfl hi3 (p_one (v := .sl 1 (List.map c_u8 (⟨x2, (0 : Int)⟩ : T_scan_scanner).b) 0) ty_ag_22 ty_sz_22 rfl) (S_call (F_char_Fault_ok _ hF fun x4 _ hF => (S_m (v := .tup _) rfl (S_ext rfl rfl (S_ext rfl rfl (S_a (v := .int _ _) rfl (S_a (v := .int _ _) rfl (S_nil (C_seq (C_reg (mdl []) (S_m (v := .int _ _) rfl (S_bin rfl rfl (ev_neq ..) (S_nil ?_)))))))))))) (.cons (.refl _) (.nil)))))))))))
  refine C_if (b := (x4.2 != (0 : Int))) rfl hF (fun hb5 hF => ?_) (fun hb5 hF => ?_)
  ·
   refine C_seq (C_reg (mdl []) (S_m (v := .int _ _) rfl (S_m (v := .int _ _) rfl (S_a (v := .snil) rfl (S_one 2 (v := .sl 6 (List.map c_T_scan_Token ([] : List T_scan_Token)) 0) (.nil _) (S_a (v := .int _ _) rfl (S_a (v := .int _ _) rfl (S_nil (WP_ret ?_)))))))))
   repeat (first | with_reducible refine Exit.sel_ret ?_ | with_reducible refine Exit.blk_ret ?_ | with_reducible refine Exit.jmp_ret ?_)
   refine C_ret (fn := Tryd.f9) rfl (.tmp (v := .sl 6 (List.map c_T_scan_Token ([] : List T_scan_Token)) 0) rfl (.tmp (v := .int .i64 x4.1) rfl (.tmp (v := .int .i64 x4.2) rfl .nil))) ?_
   exact ⟨_, _, (.tupC (.cons (.refl _) (.cons (.refl _) (.cons (.refl _) (.nil))))), ok.wh, _, F_some hF, rfl, rfl⟩
  ·
   refine WP_skip (C_seq (C_reg (mdl []) (S_a (v := .snil) rfl (S_nilB c_T_scan_Token ok (fun ok => S_nil (C_seq (C_reg (mdl []) (S_a (v := .int _ _) rfl (S_nil (C_seq (WP_label ?_)))))))))))
   refine C_gloop (σ := (List UInt8) × Int × (List T_scan_Token)) hF (fun (v : (List UInt8) × Int × (List T_scan_Token)) s' => match v with | (a7, a8, a10) => ∃ g9 : Nat, (g9 = 0 → a10 = []) ∧ OK h [mo g9 c_T_scan_Token a10, (i3, .cells [.sl 1 (List.map c_u8 a7) 0, .int .i64 a8])] ∧ WS s' ⟨mkSl 58 [(5, .ptr i3 0), (8, mslO 6 g9 a10)], Hp h [mo g9 c_T_scan_Token a10, (i3, .cells [.sl 1 (List.map c_u8 a7) 0, .int .i64 a8])]⟩) ?_ ?_
   ·
    have hwo : WO [mo 0 c_T_scan_Token ([] : List T_scan_Token), (i3, .cells [.sl 1 (List.map c_u8 (⟨x2, (0 : Int)⟩ : T_scan_scanner).b) 0, .int .i64 (⟨x2, (0 : Int)⟩ : T_scan_scanner).at_])] [mo 0 c_T_scan_Token ([] : List T_scan_Token), (i3, .cells [.sl 1 (List.map c_u8 (⟨x2, (0 : Int)⟩ : T_scan_scanner).b) 0, .int .i64 (⟨x2, (0 : Int)⟩ : T_scan_scanner).at_])] := (.keep (.keep .nil))
    exact ⟨0, (fun _ => rfl), (hwo.spec ok).1, WS.mk' (.cons (.refl _) (.cons (.refl _) .nil)) ok hwo⟩
   ·
    rintro G11 hG12 rec13 ⟨a7, a8, a10⟩ s' ih14 hF ⟨g9, zg9, ok, hws⟩
    refine WP_ws hws ?_
    clear hws s'
    rw [F_scan_All_l0] at hF
    refine C_seq (C_seq ?_)
    refine C_drw (mdl []) (by kernel_rfl) (by kernel_rfl) ?_
    refine S_m (v := .ptr _ _) rfl (S_nilc (v := .ptr _ _) rfl rfl (S_faP rfl ty_fd_54_1 ty_sz_3 (S_ldP (j := 1) ok rfl rfl rfl hi3 (p_one (v := .int .i64 a8) ty_ag_3 ty_sz_3 rfl) (S_m (v := .ptr _ _) rfl (S_nilc (v := .ptr _ _) rfl rfl (S_faP rfl ty_fd_54_0 ty_sz_22 (S_ldP (j := 1) ok rfl rfl rfl hi3 (p_one (v := .sl 1 (List.map c_u8 a7) 0) ty_ag_22 ty_sz_22 rfl) (S_lenL rfl ty_sl_22 (S_bin rfl rfl (ev_eql ..) (S_nil ?_))))))))))
    refine C_if (b := (a8 == (a7.length : Int))) rfl hF (fun hb15 hF => ?_) (fun hb15 hF => ?_)
    ·
     refine C_seq (C_reg (mdl []) (S_m (v := mslO _ _ _) rfl (S_a (v := mslO _ _ _) rfl (S_frzO 0 2 ok zg9 rfl rfl (fun _ => rfl) (fun ok => S_a (v := .int _ _) rfl (S_a (v := .int _ _) rfl (S_nil (WP_ret ?_))))))))
     replace hF := hG12 _ (F_some hF)
     repeat (first | with_reducible refine Exit.sel_ret ?_ | with_reducible refine Exit.blk_ret ?_ | with_reducible refine Exit.jmp_ret ?_)
     refine C_ret (fn := Tryd.f9) rfl (.tmp (v := .sl 6 (List.map c_T_scan_Token a10) 0) rfl (.tmp (v := .int .i64 (0 : Int)) rfl (.tmp (v := .int .i64 (0 : Int)) rfl .nil))) ?_
     exact ⟨_, _, (.tupC (.cons (.refl _) (.cons (.refl _) (.cons (.refl _) (.nil))))), ok.wh, _, F_some hF, rfl, rfl⟩
    ·
     refine WP_skip (C_seq (C_reg (mdl []) (S_m (v := .ptr _ _) rfl (S_nilc (v := .ptr _ _) rfl rfl (S_faP rfl ty_fd_54_1 ty_sz_3 (S_ldP (j := 1) ok rfl rfl rfl hi3 (p_one (v := .int .i64 a8) ty_ag_3 ty_sz_3 rfl) (S_a (v := .int _ _) rfl (S_nil (C_seq (C_reg (mdl [(11, 1)]) (S_m (v := .int _ _) rfl (S_bld (v := .agg [.int .i64 (0 : Int), .int .i64 a8, .str ([] : List UInt8), .snil, .str ([] : List UInt8), .int .i64 (0 : Int)]) (b_st ty_zc_30 ty_pl_30 rfl) (S_all1 ok rfl ty_zc_30 ?_)))))))))))))
     intro i17 hi17 ok
     refine S_nilB c_T_scan_Pair ok (fun ok => S_st (j := 1) (cs' := [.int .i64 (0 : Int), .int .i64 a8, .str ([] : List UInt8), .snil, .str ([] : List UInt8), .int .i64 (0 : Int)]) ok rfl rfl rfl hi17 rfl ty_sz_30 rfl rfl (fun ok => S_nilB c_T_scan_Pair ok (fun ok => S_nil (C_seq (C_reg (mdl []) (S_m (v := .ptr _ _) rfl ?_))))))
     obtain ⟨hpe, ok⟩ := Hp_pull 2 ok rfl
     rw [hpe]; clear hpe
     obtain ⟨hpe, ok⟩ := Hp_pull 4 ok rfl
     rw [hpe]; clear hpe
     refine S_call (F_scan_scanner_token_ok (p0 := (⟨a7, a8⟩ : T_scan_scanner)) (p1 := (⟨(0 : Int), a8, ([] : List UInt8), ([] : List T_scan_Pair), ([] : List UInt8), (0 : Int)⟩ : T_scan_Token)) (q0 := i3) (q1 := i17) (b1_3 := 0) h [mo 0 c_T_scan_Pair ([] : List T_scan_Pair), mo g9 c_T_scan_Token a10] hi3 hi17 (fun _ => rfl) ok hF fun x20 u21 _ zu21 ok hF => (S_a (v := .int _ _) rfl (S_nil (C_seq (C_seq (C_reg (mdl []) (S_m (v := .int _ _) rfl (S_bin rfl rfl (ev_neq ..) (S_nil ?_))))))))) (.cons (.refl _) (.cons (.refl _) (.nil)))
     refine C_if (b := (x20.1 != (0 : Int))) rfl hF (fun hb22 hF => ?_) (fun hb22 hF => ?_)
     ·
      refine C_seq (C_reg (mdl []) (S_m (v := .int _ _) rfl (S_m (v := .int _ _) rfl (S_a (v := .snil) rfl (S_one 2 (v := .sl 6 (List.map c_T_scan_Token ([] : List T_scan_Token)) 0) (.nil _) (S_a (v := .int _ _) rfl (S_a (v := .int _ _) rfl (S_nil (WP_ret ?_)))))))))
      replace hF := hG12 _ (F_some hF)
      repeat (first | with_reducible refine Exit.sel_ret ?_ | with_reducible refine Exit.blk_ret ?_ | with_reducible refine Exit.jmp_ret ?_)
      refine C_ret (fn := Tryd.f9) rfl (.tmp (v := .sl 6 (List.map c_T_scan_Token ([] : List T_scan_Token)) 0) rfl (.tmp (v := .int .i64 a8) rfl (.tmp (v := .int .i64 x20.1) rfl .nil))) ?_
      exact ⟨_, _, (.tupC (.cons (.refl _) (.cons (.refl _) (.cons (.refl _) (.nil))))), ok.wh, _, F_some hF, rfl, rfl⟩
     ·
      refine WP_skip (C_seq (C_reg (mdl [(57, 1)]) ?_))
      refine S_frzF (c := c_T_scan_Pair) (e := x20.2.2.Pairs) (cs' := [.int .i64 x20.2.2.Kind, .int .i64 x20.2.2.At, .str x20.2.2.Name, .sl 2 (List.map c_T_scan_Pair x20.2.2.Pairs) 0, .str x20.2.2.Text, .int .i64 x20.2.2.Refs]) 1 2 3 ok zu21 rfl hi17 rfl (by decide) (fun _ => rfl) rfl rfl (fun ok => ?_)
      refine S_frzP 1 11 ok rfl rfl hi17 (fun ok => S_m (v := mslO _ _ _) rfl (S_ldQ rfl (p_agg (vs := c_T_scan_Token x20.2.2) ty_ag_30 ty_sz_30 rfl rfl) ?_))
      refine S_lit0 (cs := [.int .i64 x20.2.2.Kind, .int .i64 x20.2.2.At, .str x20.2.2.Name, .sl 2 (List.map c_T_scan_Pair x20.2.2.Pairs) 0, .str x20.2.2.Text, .int .i64 x20.2.2.Refs]) (es := (List.map c_T_scan_Token [x20.2.2])) rfl ty_el_24 rfl (by kernel_rfl) (by kernel_rfl) ?_
      refine S_appO (j := 4) (M := [x20.2.2]) ok zg9 rfl rfl src_sl (fun _ => rfl) rfl ty_el_24 ty_ni_24 hF ?_
      intro u26 zu26 ok hF
      obtain ⟨a27, ha27, hF⟩ := F_let hF
      rw [← ha27] at ok zu26
      rw [← ha27]
      refine S_a (v := mslO _ _ _) rfl (S_nil (WP_goto ?_))
      repeat (first | with_reducible refine Exit.sel_goto ?_ | with_reducible refine Exit.blk_goto ?_)
      refine jmp_goto rfl (ih14 (x20.2.1.b, x20.2.1.at_, a27) _ hF ?_)
      obtain ⟨hpe, ok⟩ := Hp_pull 4 ok rfl
      rw [hpe]; clear hpe
      have hwo : WO [mo u26 c_T_scan_Token a27, (i3, .cells [.sl 1 (List.map c_u8 x20.2.1.b) 0, .int .i64 x20.2.1.at_]), (0, .room), (0, .room), mo 0 c_T_scan_Pair ([] : List T_scan_Pair)] [mo u26 c_T_scan_Token a27, (i3, .cells [.sl 1 (List.map c_u8 x20.2.1.b) 0, .int .i64 x20.2.1.at_])] := (.keep (.keep (.drop (.drop (.drop .nil)))))
      exact ⟨u26, zu26, (hwo.spec ok).1, WS.mk' (.cons (.refl _) (.cons (.refl _) .nil)) ok hwo⟩
theorem F_scan_All_ok {β : Type} {f : (List T_scan_Token) × Int × Int → Option β} {G : β → Prop} {R : D → Heap → Prop} {p0 : List UInt8} (h : Heap) (hF : OptP ((F_scan_All p0).bind f) G) (hk : ∀ r, F_scan_All p0 = some r → OptP (f r) G → R (.tup [.sl 6 (List.map c_T_scan_Token r.1) 0, .int .i64 r.2.1, .int .i64 r.2.2]) h) : CallsA Tryd.prog 9 [.sl 1 (List.map c_u8 p0) 0] h R := by
 obtain ⟨r0, hr, hF⟩ := F_bind hF
 refine (F_scan_All_w (G := fun r => r = r0) p0 h ⟨r0, hr, rfl⟩).mono ?_
 rintro _ _ ⟨r, rfl, rfl, rfl⟩
 exact hk _ hr hF
theorem F_lecternlaw03_awake_w {G : Bool → Prop} (h : Heap) (hF : OptP (F_lecternlaw03_awake) G) : CallsA Tryd.prog 8 [] h fun d h' => ∃ r, G r ∧ d = .bool r ∧ h' = h := by
 refine CallsA.ret (C_body Tryd.func8 rfl en_8 Tryd.ntmps8 rfl (fun ok => ?_))
 rw [F_lecternlaw03_awake] at hF
 refine C_seq (C_reg (mdl []) (S_a (v := .bool _) rfl (S_nil (C_seq (C_reg (mdl [(8, 5), (9, 5)]) ?_)))))
 refine S_lit5 (cs := [.int .u8 60, .int .u8 97, .int .u8 62, .int .u8 120, .int .u8 38, .int .u8 97, .int .u8 109, .int .u8 112, .int .u8 59, .int .u8 121, .int .u8 60, .int .u8 47, .int .u8 97, .int .u8 62]) ok rfl ty_el_22 rfl (by kernel_rfl) ?_
 intro i1 hi1 ok
 refine S_cvt (v := .sl 1 (List.map c_u8 ([60, 97, 62, 120, 38, 97, 109, 112, 59, 121, 60, 47, 97, 62] : List UInt8)) 0) (by kernel_rfl) 0 ok rfl rfl hi1 rfl ty_sl_22 ty_ki_5 rfl rfl (fun ok => ?_)
 refine S_call (F_scan_All_ok _ hF fun x3 _ hF => (S_m (v := .tup _) rfl (S_ext rfl rfl (S_ext rfl rfl (S_ext rfl rfl (S_a (v := .sl _ _ _) rfl (S_a (v := .int _ _) rfl (S_a (v := .int _ _) rfl (S_nil (C_seq (C_reg (mdl [(15, 5), (16, 5)]) ?_))))))))))) (.cons (.refl _) (.nil))
 refine S_lit5 (cs := [.int .u8 60, .int .u8 97, .int .u8 32, .int .u8 98, .int .u8 61, .int .u8 39, .int .u8 49, .int .u8 39, .int .u8 32, .int .u8 98, .int .u8 61, .int .u8 39, .int .u8 50, .int .u8 39, .int .u8 62]) ok rfl ty_el_22 rfl (by kernel_rfl) ?_
 intro i4 hi4 ok
 refine S_cvt (v := .sl 1 (List.map c_u8 ([60, 97, 32, 98, 61, 39, 49, 39, 32, 98, 61, 39, 50, 39, 62] : List UInt8)) 0) (by kernel_rfl) 0 ok rfl rfl hi4 rfl ty_sl_22 ty_ki_5 rfl rfl (fun ok => ?_)
 refine S_call (F_scan_All_ok _ hF fun x6 _ hF => (S_m (v := .tup _) rfl (S_ext rfl rfl (S_ext rfl rfl (S_ext rfl rfl (S_a (v := .sl _ _ _) rfl (S_a (v := .int _ _) rfl (S_a (v := .int _ _) rfl (S_nil (C_seq (C_reg (mdl []) (S_m (v := .int _ _) rfl (S_bin rfl rfl (ev_eql ..) (S_m (v := .bool _) rfl ?_)))))))))))))) (.cons (.refl _) (.nil))
 refine S_two (b := (x3.2.2 == (0 : Int))) 3 26 (.bool ((x3.2.2 == (0 : Int)) && (x6.2.2 == (27 : Int)))) (fun hb7 => ?_) (fun hb7 => ?_) ?_
 ·
  refine S_on rfl rfl hb7 (S_in (S_m (v := .int _ _) rfl (S_nil (S_on rfl rfl hb7 (S_in (S_bin rfl rfl (ev_eql ..) (S_nil (S_pickT (v := .bool _) rfl hb7 rfl (S_nil (.hd (and_t hb7) ?_))))))))))
  repeat (first | with_reducible exact WS.refl _ | refine WS.add ?_ rfl | exact WS.refl _)
 ·
  refine S_off rfl rfl hb7 (S_offD (S_off rfl rfl hb7 (S_offD (S_pickF (v := .bool _) rfl hb7 rfl (S_nil (.hd (and_f hb7) ?_))))))
  repeat (first | with_reducible exact WS.refl _ | refine WS.add ?_ rfl | exact WS.refl _)
 refine S_m (v := .bool _) rfl ?_
 refine S_two (b := ((x3.2.2 == (0 : Int)) && (x6.2.2 == (27 : Int)))) 4 31 (.bool (((x3.2.2 == (0 : Int)) && (x6.2.2 == (27 : Int))) && ((x3.1.length : Int) == (3 : Int)))) (fun hb8 => ?_) (fun hb8 => ?_) ?_
 ·
  refine S_on rfl rfl hb8 (S_in (S_m (v := .sl _ _ _) rfl (S_nil (S_on rfl rfl hb8 (S_in (S_lenL rfl ty_sl_24 (S_nil (S_on rfl rfl hb8 (S_in (S_bin rfl rfl (ev_eql ..) (S_nil (S_pickT (v := .bool _) rfl hb8 rfl (S_nil (.hd (and_t hb8) ?_))))))))))))))
  repeat (first | with_reducible exact WS.refl _ | refine WS.add ?_ rfl | exact WS.refl _)
 ·
  refine S_off rfl rfl hb8 (S_offD (S_off rfl rfl hb8 (S_offD (S_off rfl rfl hb8 (S_offD (S_pickF (v := .bool _) rfl hb8 rfl (S_nil (.hd (and_f hb8) ?_))))))))
  repeat (first | with_reducible exact WS.refl _ | refine WS.add ?_ rfl | exact WS.refl _)
 refine S_m (v := .bool _) rfl ?_
 refine S_twoJ 6 38 hF (fun J10 hb9 hF => ?_) (fun J10 hb9 hF => ?_) (fun v11 hF => ?_)
 ·
  refine S_on rfl rfl hb9 (S_in (S_m (v := .sl _ _ _) rfl (S_nil (S_on rfl rfl hb9 (S_in (S_ix rfl rfl ty_sl_24 ty_sz_30 hF (fun x12 _ hF => S_nil (S_on rfl rfl hb9 (S_in (S_faQ rfl ty_fd_30_4 ty_sz_9 rfl (S_nil (S_on rfl rfl hb9 (S_in (S_ldQ rfl (p_one ty_ag_9 ty_sz_9 rfl) (S_nil (S_on rfl rfl hb9 (S_in (S_bin rfl rfl e_seql (S_nil (S_pickT (v := .bool _) rfl hb9 rfl (S_nil ?_)))))))))))))))))))))
  refine ⟨_, hF, .hd (.refl _) ?_⟩
  repeat (first | with_reducible exact WS.refl _ | refine WS.add ?_ rfl | exact WS.refl _)
 ·
  refine S_off rfl rfl hb9 (S_offD (S_off rfl rfl hb9 (S_offD (S_off rfl rfl hb9 (S_offD (S_off rfl rfl hb9 (S_offD (S_off rfl rfl hb9 (S_offD (S_pickF (v := .bool _) rfl hb9 rfl (S_nil ?_)))))))))))
  refine ⟨_, hF, .hd (.refl _) ?_⟩
  repeat (first | with_reducible exact WS.refl _ | refine WS.add ?_ rfl | exact WS.refl _)
 ·
  refine S_m (v := .bool _) rfl ?_
  refine S_twoJ 6 45 hF (fun J14 hb13 hF => ?_) (fun J14 hb13 hF => ?_) (fun v15 hF => ?_)
  ·
   refine S_on rfl rfl hb13 (S_in (S_m (v := .sl _ _ _) rfl (S_nil (S_on rfl rfl hb13 (S_in (S_ix rfl rfl ty_sl_24 ty_sz_30 hF (fun x16 _ hF => S_nil (S_on rfl rfl hb13 (S_in (S_faQ rfl ty_fd_30_5 ty_sz_3 rfl (S_nil (S_on rfl rfl hb13 (S_in (S_ldQ rfl (p_one ty_ag_3 ty_sz_3 rfl) (S_nil (S_on rfl rfl hb13 (S_in (S_bin rfl rfl (ev_eql ..) (S_nil (S_pickT (v := .bool _) rfl hb13 rfl (S_nil ?_)))))))))))))))))))))
   refine ⟨_, hF, .hd (.refl _) ?_⟩
   repeat (first | with_reducible exact WS.refl _ | refine WS.add ?_ rfl | exact WS.refl _)
  ·
   refine S_off rfl rfl hb13 (S_offD (S_off rfl rfl hb13 (S_offD (S_off rfl rfl hb13 (S_offD (S_off rfl rfl hb13 (S_offD (S_off rfl rfl hb13 (S_offD (S_pickF (v := .bool _) rfl hb13 rfl (S_nil ?_)))))))))))
   refine ⟨_, hF, .hd (.refl _) ?_⟩
   repeat (first | with_reducible exact WS.refl _ | refine WS.add ?_ rfl | exact WS.refl _)
  ·
   refine S_m (v := .bool _) rfl ?_
   refine S_twoJ 6 52 hF (fun J18 hb17 hF => ?_) (fun J18 hb17 hF => ?_) (fun v19 hF => ?_)
   ·
    refine S_on rfl rfl hb17 (S_in (S_m (v := .sl _ _ _) rfl (S_nil (S_on rfl rfl hb17 (S_in (S_ix rfl rfl ty_sl_24 ty_sz_30 hF (fun x20 _ hF => S_nil (S_on rfl rfl hb17 (S_in (S_faQ rfl ty_fd_30_0 ty_sz_3 rfl (S_nil (S_on rfl rfl hb17 (S_in (S_ldQ rfl (p_one ty_ag_3 ty_sz_3 rfl) (S_nil (S_on rfl rfl hb17 (S_in (S_bin rfl rfl (ev_eql ..) (S_nil (S_pickT (v := .bool _) rfl hb17 rfl (S_nil ?_)))))))))))))))))))))
    refine ⟨_, hF, .hd (.refl _) ?_⟩
    repeat (first | with_reducible exact WS.refl _ | refine WS.add ?_ rfl | exact WS.refl _)
   ·
    refine S_off rfl rfl hb17 (S_offD (S_off rfl rfl hb17 (S_offD (S_off rfl rfl hb17 (S_offD (S_off rfl rfl hb17 (S_offD (S_off rfl rfl hb17 (S_offD (S_pickF (v := .bool _) rfl hb17 rfl (S_nil ?_)))))))))))
    refine ⟨_, hF, .hd (.refl _) ?_⟩
    repeat (first | with_reducible exact WS.refl _ | refine WS.add ?_ rfl | exact WS.refl _)
   ·
    refine S_m (v := .bool _) rfl ?_
    refine S_twoJ 6 59 hF (fun J22 hb21 hF => ?_) (fun J22 hb21 hF => ?_) (fun v23 hF => ?_)
    ·
     refine S_on rfl rfl hb21 (S_in (S_m (v := .sl _ _ _) rfl (S_nil (S_on rfl rfl hb21 (S_in (S_ix rfl rfl ty_sl_24 ty_sz_30 hF (fun x24 _ hF => S_nil (S_on rfl rfl hb21 (S_in (S_faQ rfl ty_fd_30_1 ty_sz_3 rfl (S_nil (S_on rfl rfl hb21 (S_in (S_ldQ rfl (p_one ty_ag_3 ty_sz_3 rfl) (S_nil (S_on rfl rfl hb21 (S_in (S_bin rfl rfl (ev_eql ..) (S_nil (S_pickT (v := .bool _) rfl hb21 rfl (S_nil ?_)))))))))))))))))))))
     refine ⟨_, hF, .hd (.refl _) ?_⟩
     repeat (first | with_reducible exact WS.refl _ | refine WS.add ?_ rfl | exact WS.refl _)
    ·
     refine S_off rfl rfl hb21 (S_offD (S_off rfl rfl hb21 (S_offD (S_off rfl rfl hb21 (S_offD (S_off rfl rfl hb21 (S_offD (S_off rfl rfl hb21 (S_offD (S_pickF (v := .bool _) rfl hb21 rfl (S_nil ?_)))))))))))
     refine ⟨_, hF, .hd (.refl _) ?_⟩
     repeat (first | with_reducible exact WS.refl _ | refine WS.add ?_ rfl | exact WS.refl _)
    ·
     refine S_a (v := .bool _) rfl (S_nil (WP_ret ?_))
     repeat (first | with_reducible refine Exit.sel_ret ?_ | with_reducible refine Exit.blk_ret ?_ | with_reducible refine Exit.jmp_ret ?_)
     refine C_ret (fn := Tryd.f8) rfl (.tmp (v := .bool v23) rfl .nil) ?_
     exact ⟨_, _, (.refl _), ok.wh, _, F_some hF, rfl, rfl⟩
theorem F_lecternlaw03_awake_ok {β : Type} {f : Bool → Option β} {G : β → Prop} {R : D → Heap → Prop} (h : Heap) (hF : OptP ((F_lecternlaw03_awake).bind f) G) (hk : ∀ r, F_lecternlaw03_awake = some r → OptP (f r) G → R (.bool r) h) : CallsA Tryd.prog 8 [] h R := by
 obtain ⟨r0, hr, hF⟩ := F_bind hF
 refine (F_lecternlaw03_awake_w (G := fun r => r = r0)  h ⟨r0, hr, rfl⟩).mono ?_
 rintro _ _ ⟨r, rfl, rfl, rfl⟩
 exact hk _ hr hF
theorem F_lecternref02_written_w (p0 : List UInt8) (p1 : List UInt8) (p2 : List (List UInt8)) {G : (List UInt8) → Prop} (h : Heap) (hF : OptP (F_lecternref02_written p0 p1 p2) G) : CallsA Tryd.prog 37 [.str p0, .str p1, .agg (List.map D.str p2)] h fun d h' => ∃ r, G r ∧ d = .str r ∧ h' = h := by
 refine CallsA.ret (C_body Tryd.func37 rfl en_37 Tryd.ntmps37 rfl (fun ok => ?_))
 rw [F_lecternref02_written] at hF
 refine C_seq (C_reg (mdl []) (S_box0 rfl rfl rfl rfl (S_a (v := .str ([] : List UInt8)) rfl (S_nil (C_seq (C_reg (mdl []) (S_a (v := .str ([] : List UInt8)) rfl (S_nil ?_))))))))
 refine C_join hF (fun (a57 : (List UInt8)) s' => OK h [] ∧ WS s' ⟨mkSl 42 [(7, .str a57)], Hp h []⟩) (fun J58 hF => ?_) ?_
 ·
  refine C_seq (C_reg (mdl []) (S_a (v := .int _ _) rfl (S_nil (WP_block ?_))))
  refine C_loop (σ := (List UInt8) × Int) hF (fun (v : (List UInt8) × Int) s' => match v with | (a59, a60) => OK h [] ∧ WS s' ⟨mkSl 42 [(0, .str p0), (1, .str p1), (5, .iptr (List.map D.str p2)), (7, .str a59), (8, .int .i64 a60)], Hp h []⟩) ?_ ?_
  ·
   have hwo : WO [] [] := .nil
   exact ⟨(hwo.spec ok).1, WS.mk' (.cons (.refl _) (.cons (.refl _) (.cons (.refl _) (.cons (.refl _) (.cons (.refl _) .nil))))) ok hwo⟩
  ·
   rintro G61 hG62 rec63 ⟨a59, a60⟩ s' ih64 hF ⟨ok, hws⟩
   refine WP_ws hws ?_
   clear hws s'
   rw [F_lecternref02_written_l0] at hF
   refine C_seq (C_seq (C_reg (mdl []) (S_m (v := .int _ _) rfl (S_m (v := .str _) rfl (S_lenS rfl ty_st_9 (S_bin rfl rfl (ev_lss ..) (S_nil ?_)))))))
   refine C_if (b := (decide (a60 < (p0.length : Int)))) rfl hF (fun hb65 hF => ?_) (fun hb65 hF => ?_)
   ·
    refine WP_skip ?_
    refine C_join hF (fun (a92 : (List UInt8)) s' => OK h [] ∧ WS s' ⟨mkSl 42 [(0, .str p0), (1, .str p1), (5, .iptr (List.map D.str p2)), (7, .str a92), (8, .int .i64 a60)], Hp h []⟩) (fun J93 hF => ?_) ?_
    ·
     refine WP_block (C_seq (C_reg (mdl []) (S_m (v := .str _) rfl (S_m (v := .int _ _) rfl (S_m (v := .int _ _) rfl (S_bin rfl rfl (ev_add ..) (S_slS rfl ty_st_9 (bd_at rfl) (bd_at rfl) hF (fun x94 _ hF => S_a (v := .str _) rfl (S_nil ?_)))))))))
     refine C_join hF (fun (a107 : (List UInt8)) s' => OK h [] ∧ WS s' ⟨mkSl 42 [(0, .str p0), (1, .str p1), (5, .iptr (List.map D.str p2)), (7, .str a59), (8, .int .i64 a60), (9, .str a107)], Hp h []⟩) (fun J108 hF => ?_) ?_
     ·
      refine C_seq (C_reg (mdl []) (S_a (v := .int _ _) rfl (S_nil (WP_block ?_))))
      refine C_loop (σ := (List UInt8) × Int) hF (fun (v : (List UInt8) × Int) s' => match v with | (a109, a110) => OK h [] ∧ WS s' ⟨mkSl 42 [(0, .str p0), (1, .str p1), (5, .iptr (List.map D.str p2)), (7, .str a59), (8, .int .i64 a60), (9, .str a109), (10, .int .i64 a110)], Hp h []⟩) ?_ ?_
      ·
       have hwo : WO [] [] := .nil
       exact ⟨(hwo.spec ok).1, WS.mk' (.cons (.refl _) (.cons (.refl _) (.cons (.refl _) (.cons (.refl _) (.cons (.refl _) (.cons (.refl _) (.cons (.refl _) .nil))))))) ok hwo⟩
      ·
       rintro G111 hG112 rec113 ⟨a109, a110⟩ s' ih114 hF ⟨ok, hws⟩
       refine WP_ws hws ?_
       clear hws s'
       rw [F_lecternref02_written_l1] at hF
       refine C_seq (C_seq (C_reg (mdl []) (S_m (v := .int _ _) rfl (S_m (v := .str _) rfl (S_lenS rfl ty_st_9 (S_bin rfl rfl (ev_lss ..) (S_nil ?_)))))))
       refine C_if (b := (decide (a110 < (p1.length : Int)))) rfl hF (fun hb115 hF => ?_) (fun hb115 hF => ?_)
       ·
        refine WP_skip ?_
        refine C_join hF (fun (a120 : (List UInt8)) s' => OK h [] ∧ WS s' ⟨mkSl 42 [(0, .str p0), (1, .str p1), (5, .iptr (List.map D.str p2)), (7, .str a59), (8, .int .i64 a60), (9, .str a120), (10, .int .i64 a110)], Hp h []⟩) (fun J121 hF => ?_) ?_
        ·
         refine WP_block (C_seq ?_)
         refine C_drw (mdl []) (by kernel_rfl) (by kernel_rfl) ?_
         refine S_m (v := .str _) rfl (S_m (v := .int _ _) rfl (S_ixS rfl rfl ty_st_9 hF (fun x122 _ hF => S_m (v := .str _) rfl (S_m (v := .int _ _) rfl (S_ixS rfl rfl ty_st_9 hF (fun x123 _ hF => S_bin rfl rfl (ev_eql ..) (S_nil ?_)))))))
         refine C_if (b := ((x122.toNat : Int) == (x123.toNat : Int))) rfl hF (fun hb124 hF => ?_) (fun hb124 hF => ?_)
         ·
          refine C_reg (mdl []) (S_m (v := .int _ _) rfl (S_ixQN (g := D.str) rfl rfl ty_ar_71 ty_sz_9 hF (fun x125 _ hF => S_ldQ rfl (p_one ty_ag_9 ty_sz_9 rfl) (S_a (v := .str _) rfl (S_nil ?_)))))
          have hwo : WO [] [] := .nil
          exact ⟨x125, hF, (hwo.spec ok).1, WS.mk' (.cons (.refl _) (.cons (.refl _) (.cons (.refl _) (.cons (.refl _) (.cons (.refl _) (.cons (.refl _) (.cons (.refl _) .nil))))))) ok hwo⟩
         ·
          refine WP_skip ?_
          have hwo : WO [] [] := .nil
          exact ⟨a109, hF, (hwo.spec ok).1, WS.mk' (.cons (.refl _) (.cons (.refl _) (.cons (.refl _) (.cons (.refl _) (.cons (.refl _) (.cons (.refl _) (.cons (.refl _) .nil))))))) ok hwo⟩
        ·
         rintro a120 s' hF ⟨ok, hws⟩
         refine WP_ws hws ?_
         clear hws s'
         refine C_reg (mdl []) (S_m (v := .int _ _) rfl (S_bin rfl rfl (ev_add ..) (S_a (v := .int _ _) rfl (S_nil (ih114 (a120, (IntKind.wrap .i64 (a110 + (1 : Int)))) _ hF ?_)))))
         have hwo : WO [] [] := .nil
         exact ⟨(hwo.spec ok).1, WS.mk' (.cons (.refl _) (.cons (.refl _) (.cons (.refl _) (.cons (.refl _) (.cons (.refl _) (.cons (.refl _) (.cons (.refl _) .nil))))))) ok hwo⟩
       ·
        refine WP_exit ?_
        simp only [Exit.sel, Exit.blk, Exit.jmp, if_true, if_false, reduceIte, Nat.reduceEqDiff, Nat.succ_ne_zero, Nat.zero_ne_one, Nat.one_ne_zero]
        replace hF := hG112 _ (F_some hF)
        have hwo : WO [] [] := .nil
        exact ⟨a109, hF, (hwo.spec ok).1, WS.mk' (.cons (.refl _) (.cons (.refl _) (.cons (.refl _) (.cons (.refl _) (.cons (.refl _) (.cons (.refl _) .nil)))))) ok hwo⟩
     ·
      rintro a107 s' hF ⟨ok, hws⟩
      refine WP_ws hws ?_
      clear hws s'
      refine C_reg (mdl []) (S_m (v := .str _) rfl (S_m (v := .str _) rfl (S_cat rfl rfl hF (fun hF => S_a (v := .str _) rfl (S_nil ?_)))))
      have hwo : WO [] [] := .nil
      exact ⟨(a59 ++ a107), hF, (hwo.spec ok).1, WS.mk' (.cons (.refl _) (.cons (.refl _) (.cons (.refl _) (.cons (.refl _) (.cons (.refl _) .nil))))) ok hwo⟩
    ·
     rintro a92 s' hF ⟨ok, hws⟩
     refine WP_ws hws ?_
     clear hws s'
     refine C_reg (mdl []) (S_m (v := .int _ _) rfl (S_bin rfl rfl (ev_add ..) (S_a (v := .int _ _) rfl (S_nil (ih64 (a92, (IntKind.wrap .i64 (a60 + (1 : Int)))) _ hF ?_)))))
     have hwo : WO [] [] := .nil
     exact ⟨(hwo.spec ok).1, WS.mk' (.cons (.refl _) (.cons (.refl _) (.cons (.refl _) (.cons (.refl _) (.cons (.refl _) .nil))))) ok hwo⟩
   ·
    refine WP_exit ?_
    simp only [Exit.sel, Exit.blk, Exit.jmp, if_true, if_false, reduceIte, Nat.reduceEqDiff, Nat.succ_ne_zero, Nat.zero_ne_one, Nat.one_ne_zero]
    replace hF := hG62 _ (F_some hF)
    have hwo : WO [] [] := .nil
    exact ⟨a59, hF, (hwo.spec ok).1, WS.mk' (.cons (.refl _) .nil) ok hwo⟩
 ·
  rintro a57 s' hF ⟨ok, hws⟩
  refine WP_ws hws ?_
  clear hws s'
  refine C_seq (C_reg (mdl []) (S_m (v := .str _) rfl (S_a (v := .str _) rfl (S_nil (WP_ret ?_)))))
  repeat (first | with_reducible refine Exit.sel_ret ?_ | with_reducible refine Exit.blk_ret ?_ | with_reducible refine Exit.jmp_ret ?_)
  refine C_ret (fn := Tryd.f37) rfl (.tmp (v := .str a57) rfl .nil) ?_
  exact ⟨_, _, (.refl _), ok.wh, _, F_some hF, rfl, rfl⟩
theorem F_lecternref02_written_ok {β : Type} {f : (List UInt8) → Option β} {G : β → Prop} {R : D → Heap → Prop} {p0 : List UInt8} {p1 : List UInt8} {p2 : List (List UInt8)} (h : Heap) (hF : OptP ((F_lecternref02_written p0 p1 p2).bind f) G) (hk : ∀ r, F_lecternref02_written p0 p1 p2 = some r → OptP (f r) G → R (.str r) h) : CallsA Tryd.prog 37 [.str p0, .str p1, .agg (List.map D.str p2)] h R := by
 obtain ⟨r0, hr, hF⟩ := F_bind hF
 refine (F_lecternref02_written_w (G := fun r => r = r0) p0 p1 p2 h ⟨r0, hr, rfl⟩).mono ?_
 rintro _ _ ⟨r, rfl, rfl, rfl⟩
 exact hk _ hr hF
theorem F_lecternref02_Quote_w (p0 : List UInt8) {G : (List UInt8) → Prop} (h : Heap) (hF : OptP (F_lecternref02_Quote p0) G) : CallsA Tryd.prog 20 [.str p0] h fun d h' => ∃ r, G r ∧ d = .str r ∧ h' = h := by
 refine CallsA.ret (C_body Tryd.func20 rfl en_20 Tryd.ntmps20 rfl (fun ok => ?_))
 rw [F_lecternref02_Quote] at hF
 refine C_seq (C_reg (mdl []) (S_a (v := .str ([] : List UInt8)) rfl (S_nil (C_seq (C_reg (mdl []) (S_m (v := .str _) rfl (S_bld (v := .agg (List.map D.str ([([38, 97, 109, 112, 59] : List UInt8), ([38, 108, 116, 59] : List UInt8), ([38, 113, 117, 111, 116, 59] : List UInt8), ([38, 35, 57, 59] : List UInt8), ([38, 35, 49, 48, 59] : List UInt8), ([38, 35, 49, 51, 59] : List UInt8)] : List (List UInt8)))) (b_arr ty_zc_71 ty_pl_71 ty_ar_71 ty_sz_9 rfl) (S_call (F_lecternref02_written_ok _ hF fun x1 _ hF => (S_a (v := .str _) rfl (S_nil (WP_ret ?_)))) (.cons (.refl _) (.cons (.refl _) (.cons (.refl _) (.nil))))))))))))
 repeat (first | with_reducible refine Exit.sel_ret ?_ | with_reducible refine Exit.blk_ret ?_ | with_reducible refine Exit.jmp_ret ?_)
 refine C_ret (fn := Tryd.f20) rfl (.tmp (v := .str x1) rfl .nil) ?_
 exact ⟨_, _, (.refl _), ok.wh, _, F_some hF, rfl, rfl⟩
theorem F_lecternref02_Quote_ok {β : Type} {f : (List UInt8) → Option β} {G : β → Prop} {R : D → Heap → Prop} {p0 : List UInt8} (h : Heap) (hF : OptP ((F_lecternref02_Quote p0).bind f) G) (hk : ∀ r, F_lecternref02_Quote p0 = some r → OptP (f r) G → R (.str r) h) : CallsA Tryd.prog 20 [.str p0] h R := by
 obtain ⟨r0, hr, hF⟩ := F_bind hF
 refine (F_lecternref02_Quote_w (G := fun r => r = r0) p0 h ⟨r0, hr, rfl⟩).mono ?_
 rintro _ _ ⟨r, rfl, rfl, rfl⟩
 exact hk _ hr hF
theorem F_lecternlaw03_apart_w (p0 : List UInt8) {G : (List UInt8) → Prop} (h : Heap) (hF : OptP (F_lecternlaw03_apart p0) G) : CallsA Tryd.prog 21 [.str p0] h fun d h' => ∃ r, G r ∧ d = .str r ∧ h' = h := by
 refine CallsA.ret (C_body Tryd.func21 rfl en_21 Tryd.ntmps21 rfl (fun ok => ?_))
 rw [F_lecternlaw03_apart] at hF
 refine C_seq (C_reg (mdl []) (S_a (v := .str ([] : List UInt8)) rfl (S_nil (C_seq (C_reg (mdl []) (S_a (v := .str ([] : List UInt8)) rfl (S_nil ?_)))))))
 refine C_join hF (fun (a23 : (List UInt8)) s' => OK h [] ∧ WS s' ⟨mkSl 53 [(3, .str a23)], Hp h []⟩) (fun J24 hF => ?_) ?_
 ·
  refine C_seq (C_reg (mdl []) (S_a (v := .int _ _) rfl (S_nil (WP_block ?_))))
  refine C_loop (σ := (List UInt8) × Int) hF (fun (v : (List UInt8) × Int) s' => match v with | (a25, a26) => OK h [] ∧ WS s' ⟨mkSl 53 [(0, .str p0), (3, .str a25), (4, .int .i64 a26)], Hp h []⟩) ?_ ?_
  ·
   have hwo : WO [] [] := .nil
   exact ⟨(hwo.spec ok).1, WS.mk' (.cons (.refl _) (.cons (.refl _) (.cons (.refl _) .nil))) ok hwo⟩
  ·
   rintro G27 hG28 rec29 ⟨a25, a26⟩ s' ih30 hF ⟨ok, hws⟩
   refine WP_ws hws ?_
   clear hws s'
   rw [F_lecternlaw03_apart_l0] at hF
   refine C_seq (C_seq (C_reg (mdl []) (S_m (v := .int _ _) rfl (S_m (v := .str _) rfl (S_lenS rfl ty_st_9 (S_bin rfl rfl (ev_lss ..) (S_nil ?_)))))))
   refine C_if (b := (decide (a26 < (p0.length : Int)))) rfl hF (fun hb31 hF => ?_) (fun hb31 hF => ?_)
   ·
    refine WP_skip ?_
    refine C_join hF (fun (a41 : (List UInt8)) s' => OK h [] ∧ WS s' ⟨mkSl 53 [(0, .str p0), (3, .str a41), (4, .int .i64 a26)], Hp h []⟩) (fun J42 hF => ?_) ?_
    ·
     refine WP_block (C_seq (C_reg (mdl []) (S_m (v := .str _) rfl (S_m (v := .int _ _) rfl (S_ixS rfl rfl ty_st_9 hF (fun x43 _ hF => S_a (v := .int _ _) rfl (S_nil (C_seq (C_reg (mdl []) (S_m (v := .int _ _) rfl (S_bin rfl rfl (ev_eql ..) (S_m (v := .bool _) rfl ?_))))))))))))
     refine S_two (b := ((x43.toNat : Int) == (38 : Int))) 3 20 (.bool (((x43.toNat : Int) == (38 : Int)) || ((x43.toNat : Int) == (60 : Int)))) (fun hb44 => ?_) (fun hb44 => ?_) ?_
     ·
      refine S_off rfl rfl hb44 (S_offD (S_off rfl rfl hb44 (S_offD (S_pickT (v := .bool _) rfl hb44 rfl (S_nil (.hd (or_t hb44) ?_))))))
      repeat (first | with_reducible exact WS.refl _ | refine WS.add ?_ rfl | exact WS.refl _)
     ·
      refine S_on rfl rfl hb44 (S_in (S_m (v := .int _ _) rfl (S_nil (S_on rfl rfl hb44 (S_in (S_bin rfl rfl (ev_eql ..) (S_nil (S_pickF (v := .bool _) rfl hb44 rfl (S_nil (.hd (or_f hb44) ?_))))))))))
      repeat (first | with_reducible exact WS.refl _ | refine WS.add ?_ rfl | exact WS.refl _)
     refine S_m (v := .bool _) rfl ?_
     refine S_two (b := (((x43.toNat : Int) == (38 : Int)) || ((x43.toNat : Int) == (60 : Int)))) 3 24 (.bool ((((x43.toNat : Int) == (38 : Int)) || ((x43.toNat : Int) == (60 : Int))) || ((x43.toNat : Int) == (39 : Int)))) (fun hb45 => ?_) (fun hb45 => ?_) ?_
     ·
      refine S_off rfl rfl hb45 (S_offD (S_off rfl rfl hb45 (S_offD (S_pickT (v := .bool _) rfl hb45 rfl (S_nil (.hd (or_t hb45) ?_))))))
      repeat (first | with_reducible exact WS.refl _ | refine WS.add ?_ rfl | exact WS.refl _)
     ·
      refine S_on rfl rfl hb45 (S_in (S_m (v := .int _ _) rfl (S_nil (S_on rfl rfl hb45 (S_in (S_bin rfl rfl (ev_eql ..) (S_nil (S_pickF (v := .bool _) rfl hb45 rfl (S_nil (.hd (or_f hb45) ?_))))))))))
      repeat (first | with_reducible exact WS.refl _ | refine WS.add ?_ rfl | exact WS.refl _)
     refine S_m (v := .bool _) rfl ?_
     refine S_two (b := ((((x43.toNat : Int) == (38 : Int)) || ((x43.toNat : Int) == (60 : Int))) || ((x43.toNat : Int) == (39 : Int)))) 3 28 (.bool (((((x43.toNat : Int) == (38 : Int)) || ((x43.toNat : Int) == (60 : Int))) || ((x43.toNat : Int) == (39 : Int))) || (decide ((x43.toNat : Int) < (32 : Int))))) (fun hb46 => ?_) (fun hb46 => ?_) ?_
     ·
      refine S_off rfl rfl hb46 (S_offD (S_off rfl rfl hb46 (S_offD (S_pickT (v := .bool _) rfl hb46 rfl (S_nil (.hd (or_t hb46) ?_))))))
      repeat (first | with_reducible exact WS.refl _ | refine WS.add ?_ rfl | exact WS.refl _)
     ·
      refine S_on rfl rfl hb46 (S_in (S_m (v := .int _ _) rfl (S_nil (S_on rfl rfl hb46 (S_in (S_bin rfl rfl (ev_lss ..) (S_nil (S_pickF (v := .bool _) rfl hb46 rfl (S_nil (.hd (or_f hb46) ?_))))))))))
      repeat (first | with_reducible exact WS.refl _ | refine WS.add ?_ rfl | exact WS.refl _)
     refine S_nil ?_
     refine C_if (b := (((((x43.toNat : Int) == (38 : Int)) || ((x43.toNat : Int) == (60 : Int))) || ((x43.toNat : Int) == (39 : Int))) || (decide ((x43.toNat : Int) < (32 : Int))))) rfl hF (fun hb47 hF => ?_) (fun hb47 hF => ?_)
     ·
      refine C_reg (mdl []) (S_m (v := .str _) rfl (S_cat rfl rfl hF (fun hF => S_m (v := .int _ _) rfl (S_bin rfl rfl (e_quo rfl) (S_bin rfl rfl (ev_add ..) (S_m (v := .int _ _) rfl (S_bin rfl rfl (e_quo rfl) (S_bin rfl rfl (e_rem rfl) (S_bin rfl rfl (ev_add ..) (S_m (v := .int _ _) rfl (S_bin rfl rfl (e_rem rfl) (S_bin rfl rfl (ev_add ..) ?_))))))))))))
      obtain ⟨b48, hb48, hF⟩ := F_bind hF
      replace hb48 := u8_spec hb48
      obtain ⟨b49, hb49, hF⟩ := F_bind hF
      replace hb49 := u8_spec hb49
      obtain ⟨b50, hb50, hF⟩ := F_bind hF
      replace hb50 := u8_spec hb50
      refine S_lit0 (es := List.map c_u8 [b48, b49, b50]) rfl ty_el_22 rfl rfl (by simp only [List.map_cons, List.map_nil, c_u8, hb48, hb49, hb50]; rfl) ?_
      refine S_conv rfl (e_cbs ty_sl_22 ty_ki_5 ty_st_9) (S_cat rfl rfl hF (fun hF => S_cat rfl rfl hF (fun hF => S_a (v := .str _) rfl (S_nil ?_))))
      have hwo : WO [] [] := .nil
      exact ⟨(((a25 ++ ([38, 35] : List UInt8)) ++ [b48, b49, b50]) ++ ([59] : List UInt8)), hF, (hwo.spec ok).1, WS.mk' (.cons (.refl _) (.cons (.refl _) (.cons (.refl _) .nil))) ok hwo⟩
     ·
      refine C_reg (mdl []) (S_m (v := .str _) rfl (S_m (v := .str _) rfl (S_m (v := .int _ _) rfl (S_m (v := .int _ _) rfl (S_bin rfl rfl (ev_add ..) (S_slS rfl ty_st_9 (bd_at rfl) (bd_at rfl) hF (fun x51 _ hF => S_cat rfl rfl hF (fun hF => S_a (v := .str _) rfl (S_nil ?_)))))))))
      have hwo : WO [] [] := .nil
      exact ⟨(a25 ++ x51), hF, (hwo.spec ok).1, WS.mk' (.cons (.refl _) (.cons (.refl _) (.cons (.refl _) .nil))) ok hwo⟩
    ·
     rintro a41 s' hF ⟨ok, hws⟩
     refine WP_ws hws ?_
     clear hws s'
     refine C_reg (mdl []) (S_m (v := .int _ _) rfl (S_bin rfl rfl (ev_add ..) (S_a (v := .int _ _) rfl (S_nil (ih30 (a41, (IntKind.wrap .i64 (a26 + (1 : Int)))) _ hF ?_)))))
     have hwo : WO [] [] := .nil
     exact ⟨(hwo.spec ok).1, WS.mk' (.cons (.refl _) (.cons (.refl _) (.cons (.refl _) .nil))) ok hwo⟩
   ·
    refine WP_exit ?_
    simp only [Exit.sel, Exit.blk, Exit.jmp, if_true, if_false, reduceIte, Nat.reduceEqDiff, Nat.succ_ne_zero, Nat.zero_ne_one, Nat.one_ne_zero]
    replace hF := hG28 _ (F_some hF)
    have hwo : WO [] [] := .nil
    exact ⟨a25, hF, (hwo.spec ok).1, WS.mk' (.cons (.refl _) .nil) ok hwo⟩
 ·
  rintro a23 s' hF ⟨ok, hws⟩
  refine WP_ws hws ?_
  clear hws s'
  refine C_seq (C_reg (mdl []) (S_m (v := .str _) rfl (S_a (v := .str _) rfl (S_nil (WP_ret ?_)))))
  repeat (first | with_reducible refine Exit.sel_ret ?_ | with_reducible refine Exit.blk_ret ?_ | with_reducible refine Exit.jmp_ret ?_)
  refine C_ret (fn := Tryd.f21) rfl (.tmp (v := .str a23) rfl .nil) ?_
  exact ⟨_, _, (.refl _), ok.wh, _, F_some hF, rfl, rfl⟩
theorem F_lecternlaw03_apart_ok {β : Type} {f : (List UInt8) → Option β} {G : β → Prop} {R : D → Heap → Prop} {p0 : List UInt8} (h : Heap) (hF : OptP ((F_lecternlaw03_apart p0).bind f) G) (hk : ∀ r, F_lecternlaw03_apart p0 = some r → OptP (f r) G → R (.str r) h) : CallsA Tryd.prog 21 [.str p0] h R := by
 obtain ⟨r0, hr, hF⟩ := F_bind hF
 refine (F_lecternlaw03_apart_w (G := fun r => r = r0) p0 h ⟨r0, hr, rfl⟩).mono ?_
 rintro _ _ ⟨r, rfl, rfl, rfl⟩
 exact hk _ hr hF
theorem F_lecternref02_Text_w (p0 : List UInt8) {G : (List UInt8) → Prop} (h : Heap) (hF : OptP (F_lecternref02_Text p0) G) : CallsA Tryd.prog 22 [.str p0] h fun d h' => ∃ r, G r ∧ d = .str r ∧ h' = h := by
 refine CallsA.ret (C_body Tryd.func22 rfl en_22 Tryd.ntmps22 rfl (fun ok => ?_))
 rw [F_lecternref02_Text] at hF
 refine C_seq (C_reg (mdl []) (S_a (v := .str ([] : List UInt8)) rfl (S_nil (C_seq (C_reg (mdl []) (S_m (v := .str _) rfl (S_bld (v := .agg (List.map D.str ([([38, 97, 109, 112, 59] : List UInt8), ([38, 108, 116, 59] : List UInt8), ([38, 103, 116, 59] : List UInt8), ([38, 35, 49, 51, 59] : List UInt8), ([] : List UInt8), ([] : List UInt8)] : List (List UInt8)))) (b_arr ty_zc_71 ty_pl_71 ty_ar_71 ty_sz_9 rfl) (S_call (F_lecternref02_written_ok _ hF fun x1 _ hF => (S_a (v := .str _) rfl (S_nil (WP_ret ?_)))) (.cons (.refl _) (.cons (.refl _) (.cons (.refl _) (.nil))))))))))))
 repeat (first | with_reducible refine Exit.sel_ret ?_ | with_reducible refine Exit.blk_ret ?_ | with_reducible refine Exit.jmp_ret ?_)
 refine C_ret (fn := Tryd.f22) rfl (.tmp (v := .str x1) rfl .nil) ?_
 exact ⟨_, _, (.refl _), ok.wh, _, F_some hF, rfl, rfl⟩
theorem F_lecternref02_Text_ok {β : Type} {f : (List UInt8) → Option β} {G : β → Prop} {R : D → Heap → Prop} {p0 : List UInt8} (h : Heap) (hF : OptP ((F_lecternref02_Text p0).bind f) G) (hk : ∀ r, F_lecternref02_Text p0 = some r → OptP (f r) G → R (.str r) h) : CallsA Tryd.prog 22 [.str p0] h R := by
 obtain ⟨r0, hr, hF⟩ := F_bind hF
 refine (F_lecternref02_Text_w (G := fun r => r = r0) p0 h ⟨r0, hr, rfl⟩).mono ?_
 rintro _ _ ⟨r, rfl, rfl, rfl⟩
 exact hk _ hr hF
theorem F_lecternlaw03_shown_w (p0 : T_scan_Token) (p1 : List UInt8) {G : (List UInt8) → Prop} (h : Heap) (hF : OptP (F_lecternlaw03_shown p0 p1) G) : CallsA Tryd.prog 11 [.agg (c_T_scan_Token p0), .str p1] h fun d h' => ∃ r, G r ∧ d = .str r ∧ h' = h := by
 refine CallsA.ret (C_body Tryd.func11 rfl en_11 Tryd.ntmps11 rfl (fun ok => ?_))
 rw [F_lecternlaw03_shown] at hF
 refine C_seq (C_reg (mdl []) (S_box0 rfl rfl rfl rfl (S_a (v := .str ([] : List UInt8)) rfl (S_nil (C_seq (C_reg (mdl []) (S_a (v := .str ([] : List UInt8)) rfl (S_nil ?_))))))))
 refine C_join hF (fun (a12 : (List UInt8)) s' => OK h [] ∧ WS s' ⟨mkSl 98 [(2, .iptr (c_T_scan_Token p0)), (5, .str a12)], Hp h []⟩) (fun J13 hF => ?_) ?_
 ·
  refine C_seq (C_reg (mdl []) (S_faQ rfl ty_fd_30_3 ty_sz_28 rfl (S_ldQ rfl (p_one ty_ag_28 ty_sz_28 rfl) (S_lenL rfl ty_sl_28 (S_m (v := .int _ _) rfl (S_nil (WP_block ?_)))))))
  refine C_loop (σ := (List UInt8) × Int) hF (fun (v : (List UInt8) × Int) s' => match v with | (a14, a15) => OK h [] ∧ WS s' ⟨mkSl 98 [(1, .str p1), (2, .iptr (c_T_scan_Token p0)), (5, .str a14), (10, .sl 2 (List.map c_T_scan_Pair p0.Pairs) 0), (11, .int .i64 (p0.Pairs.length : Int)), (12, .int .i64 a15)], Hp h []⟩) ?_ ?_
  ·
   have hwo : WO [] [] := .nil
   exact ⟨(hwo.spec ok).1, WS.mk' (.cons (.refl _) (.cons (.refl _) (.cons (.refl _) (.cons (.refl _) (.cons (.refl _) (.cons (.refl _) .nil)))))) ok hwo⟩
  ·
   rintro G16 hG17 rec18 ⟨a14, a15⟩ s' ih19 hF ⟨ok, hws⟩
   refine WP_ws hws ?_
   clear hws s'
   rw [F_lecternlaw03_shown_l0] at hF
   refine C_seq (C_reg (mdl []) (S_bin rfl rfl (ev_lss ..) (S_nil (C_seq ?_))))
   refine C_if (b := (decide (a15 < (p0.Pairs.length : Int)))) rfl hF (fun hb20 hF => ?_) (fun hb20 hF => ?_)
   ·
    refine WP_skip (C_seq (WP_block (C_seq (C_reg (mdl [(7, 1)]) (S_ix rfl rfl ty_sl_28 ty_sz_32 hF (fun x21 _ hF => S_ldQ rfl (p_agg (vs := c_T_scan_Pair x21) ty_ag_32 ty_sz_32 rfl rfl) (S_all1 ok rfl ty_zc_32 ?_)))))))
    intro i22 hi22 ok
    refine S_st (j := 0) (cs' := [.str x21.Name, .str x21.Value]) ok rfl rfl rfl hi22 rfl ty_sz_32 rfl rfl (fun ok => S_nil (C_seq (C_reg (mdl []) (S_faP rfl ty_fd_32_1 ty_sz_9 (S_ldP (j := 0) ok rfl rfl rfl hi22 (p_one (v := .str x21.Value) ty_ag_9 ty_sz_9 rfl) (S_call (F_lecternref02_Quote_ok _ hF fun x23 _ hF => (S_a (v := .str _) rfl (S_nil ?_))) (.cons (.refl _) (.nil))))))))
    refine C_join hF (fun (a26 : (List UInt8)) s' => OK h [(i22, .cells [.str x21.Name, .str x21.Value])] ∧ WS s' ⟨mkSl 98 [(1, .str p1), (2, .iptr (c_T_scan_Token p0)), (5, .str a14), (7, .ptr i22 0), (8, .str a26), (10, .sl 2 (List.map c_T_scan_Pair p0.Pairs) 0), (11, .int .i64 (p0.Pairs.length : Int)), (12, .int .i64 a15)], Hp h [(i22, .cells [.str x21.Name, .str x21.Value])]⟩) (fun J27 hF => ?_) ?_
    ·
     refine C_seq (C_reg (mdl []) (S_m (v := .str _) rfl (S_bin rfl rfl e_seql (S_nil ?_))))
     refine C_if (b := (p1 == ([39] : List UInt8))) rfl hF (fun hb28 hF => ?_) (fun hb28 hF => ?_)
     ·
      refine C_reg (mdl []) (S_faP rfl ty_fd_32_1 ty_sz_9 (S_ldP (j := 0) ok rfl rfl rfl hi22 (p_one (v := .str x21.Value) ty_ag_9 ty_sz_9 rfl) (S_call (F_lecternlaw03_apart_ok _ hF fun x29 _ hF => (S_a (v := .str _) rfl (S_nil ?_))) (.cons (.refl _) (.nil)))))
      have hwo : WO [(i22, .cells [.str x21.Name, .str x21.Value])] [(i22, .cells [.str x21.Name, .str x21.Value])] := (.keep .nil)
      exact ⟨x29, hF, (hwo.spec ok).1, WS.mk' (.cons (.refl _) (.cons (.refl _) (.cons (.refl _) (.cons (.refl _) (.cons (.refl _) (.cons (.refl _) (.cons (.refl _) (.cons (.refl _) .nil)))))))) ok hwo⟩
     ·
      refine WP_skip ?_
      have hwo : WO [(i22, .cells [.str x21.Name, .str x21.Value])] [(i22, .cells [.str x21.Name, .str x21.Value])] := (.keep .nil)
      exact ⟨x23, hF, (hwo.spec ok).1, WS.mk' (.cons (.refl _) (.cons (.refl _) (.cons (.refl _) (.cons (.refl _) (.cons (.refl _) (.cons (.refl _) (.cons (.refl _) (.cons (.refl _) .nil)))))))) ok hwo⟩
    ·
     rintro a26 s' hF ⟨ok, hws⟩
     refine WP_ws hws ?_
     clear hws s'
     refine C_reg (mdl []) (S_m (v := .str _) rfl (S_cat rfl rfl hF (fun hF => S_faP rfl ty_fd_32_0 ty_sz_9 (S_ldP (j := 0) ok rfl rfl rfl hi22 (p_one (v := .str x21.Name) ty_ag_9 ty_sz_9 rfl) (S_cat rfl rfl hF (fun hF => S_cat rfl rfl hF (fun hF => S_m (v := .str _) rfl (S_cat rfl rfl hF (fun hF => S_m (v := .str _) rfl (S_cat rfl rfl hF (fun hF => S_m (v := .str _) rfl (S_cat rfl rfl hF (fun hF => S_a (v := .str _) rfl (S_nil (C_reg (mdl []) (S_bin rfl rfl (ev_add ..) (S_m (v := .int _ _) rfl (S_nil (ih19 (((((((a14 ++ ([32] : List UInt8)) ++ x21.Name) ++ ([61] : List UInt8)) ++ p1) ++ a26) ++ p1), (IntKind.wrap .i64 (a15 + (1 : Int)))) _ hF ?_)))))))))))))))))))
     have hwo : WO [(i22, .cells [.str x21.Name, .str x21.Value])] [] := (.drop .nil)
     exact ⟨(hwo.spec ok).1, WS.mk' (.cons (.refl _) (.cons (.refl _) (.cons (.refl _) (.cons (.refl _) (.cons (.refl _) (.cons (.refl _) .nil)))))) ok hwo⟩
   ·
    refine WP_exit ?_
    simp only [Exit.sel, Exit.blk, Exit.jmp, if_true, if_false, reduceIte, Nat.reduceEqDiff, Nat.succ_ne_zero, Nat.zero_ne_one, Nat.one_ne_zero]
    replace hF := hG17 _ (F_some hF)
    have hwo : WO [] [] := .nil
    exact ⟨a14, hF, (hwo.spec ok).1, WS.mk' (.cons (.refl _) (.cons (.refl _) .nil)) ok hwo⟩
 ·
  rintro a12 s' hF ⟨ok, hws⟩
  refine WP_ws hws ?_
  clear hws s'
  refine C_seq (C_seq (C_reg (mdl []) (S_faQ rfl ty_fd_30_0 ty_sz_3 rfl (S_ldQ rfl (p_one ty_ag_3 ty_sz_3 rfl) (S_nil (WP_block (C_seq (C_reg (mdl []) (S_bin rfl rfl (ev_eql ..) (S_a (v := .bool _) rfl (S_nil ?_)))))))))))
  refine C_if (b := (p0.Kind == (1 : Int))) rfl hF (fun hb30 hF => ?_) (fun hb30 hF => ?_)
  ·
   refine C_seq (C_reg (mdl []) (S_m (v := .str _) rfl (S_cat rfl rfl hF (fun hF => S_cat rfl rfl hF (fun hF => S_a (v := .str _) rfl (S_nil (WP_ret ?_)))))))
   repeat (first | with_reducible refine Exit.sel_ret ?_ | with_reducible refine Exit.blk_ret ?_ | with_reducible refine Exit.jmp_ret ?_)
   refine C_ret (fn := Tryd.f11) rfl (.tmp (v := .str ((([60, 63, 120, 109, 108] : List UInt8) ++ a12) ++ ([63, 62] : List UInt8))) rfl .nil) ?_
   exact ⟨_, _, (.refl _), ok.wh, _, F_some hF, rfl, rfl⟩
  ·
   refine C_seq (C_reg (mdl []) (S_bin rfl rfl (ev_eql ..) (S_a (v := .bool _) rfl (S_nil ?_))))
   refine C_if (b := (p0.Kind == (2 : Int))) rfl hF (fun hb31 hF => ?_) (fun hb31 hF => ?_)
   ·
    refine C_seq (C_reg (mdl []) (S_faQ rfl ty_fd_30_2 ty_sz_9 rfl (S_ldQ rfl (p_one ty_ag_9 ty_sz_9 rfl) (S_cat rfl rfl hF (fun hF => S_m (v := .str _) rfl (S_cat rfl rfl hF (fun hF => S_cat rfl rfl hF (fun hF => S_a (v := .str _) rfl (S_nil (WP_ret ?_))))))))))
    repeat (first | with_reducible refine Exit.sel_ret ?_ | with_reducible refine Exit.blk_ret ?_ | with_reducible refine Exit.jmp_ret ?_)
    refine C_ret (fn := Tryd.f11) rfl (.tmp (v := .str (((([60] : List UInt8) ++ p0.Name) ++ a12) ++ ([62] : List UInt8))) rfl .nil) ?_
    exact ⟨_, _, (.refl _), ok.wh, _, F_some hF, rfl, rfl⟩
   ·
    refine C_seq (C_reg (mdl []) (S_bin rfl rfl (ev_eql ..) (S_a (v := .bool _) rfl (S_nil ?_))))
    refine C_if (b := (p0.Kind == (4 : Int))) rfl hF (fun hb32 hF => ?_) (fun hb32 hF => ?_)
    ·
     refine C_seq (C_reg (mdl []) (S_faQ rfl ty_fd_30_2 ty_sz_9 rfl (S_ldQ rfl (p_one ty_ag_9 ty_sz_9 rfl) (S_cat rfl rfl hF (fun hF => S_m (v := .str _) rfl (S_cat rfl rfl hF (fun hF => S_cat rfl rfl hF (fun hF => S_a (v := .str _) rfl (S_nil (WP_ret ?_))))))))))
     repeat (first | with_reducible refine Exit.sel_ret ?_ | with_reducible refine Exit.blk_ret ?_ | with_reducible refine Exit.jmp_ret ?_)
     refine C_ret (fn := Tryd.f11) rfl (.tmp (v := .str (((([60] : List UInt8) ++ p0.Name) ++ a12) ++ ([47, 62] : List UInt8))) rfl .nil) ?_
     exact ⟨_, _, (.refl _), ok.wh, _, F_some hF, rfl, rfl⟩
    ·
     refine C_seq (C_reg (mdl []) (S_bin rfl rfl (ev_eql ..) (S_a (v := .bool _) rfl (S_nil ?_))))
     refine C_if (b := (p0.Kind == (3 : Int))) rfl hF (fun hb33 hF => ?_) (fun hb33 hF => ?_)
     ·
      refine C_seq (C_reg (mdl []) (S_faQ rfl ty_fd_30_2 ty_sz_9 rfl (S_ldQ rfl (p_one ty_ag_9 ty_sz_9 rfl) (S_cat rfl rfl hF (fun hF => S_cat rfl rfl hF (fun hF => S_a (v := .str _) rfl (S_nil (WP_ret ?_))))))))
      repeat (first | with_reducible refine Exit.sel_ret ?_ | with_reducible refine Exit.blk_ret ?_ | with_reducible refine Exit.jmp_ret ?_)
      refine C_ret (fn := Tryd.f11) rfl (.tmp (v := .str ((([60, 47] : List UInt8) ++ p0.Name) ++ ([62] : List UInt8))) rfl .nil) ?_
      exact ⟨_, _, (.refl _), ok.wh, _, F_some hF, rfl, rfl⟩
     ·
      refine C_seq (C_reg (mdl []) (S_bin rfl rfl (ev_eql ..) (S_a (v := .bool _) rfl (S_nil ?_))))
      refine C_if (b := (p0.Kind == (5 : Int))) rfl hF (fun hb34 hF => ?_) (fun hb34 hF => ?_)
      ·
       refine C_seq (C_reg (mdl []) (S_faQ rfl ty_fd_30_4 ty_sz_9 rfl (S_ldQ rfl (p_one ty_ag_9 ty_sz_9 rfl) (S_call (F_lecternref02_Text_ok _ hF fun x35 _ hF => (S_a (v := .str _) rfl (S_nil (WP_ret ?_)))) (.cons (.refl _) (.nil))))))
       repeat (first | with_reducible refine Exit.sel_ret ?_ | with_reducible refine Exit.blk_ret ?_ | with_reducible refine Exit.jmp_ret ?_)
       refine C_ret (fn := Tryd.f11) rfl (.tmp (v := .str x35) rfl .nil) ?_
       exact ⟨_, _, (.refl _), ok.wh, _, F_some hF, rfl, rfl⟩
      ·
       refine C_seq (C_reg (mdl []) (S_bin rfl rfl (ev_eql ..) (S_a (v := .bool _) rfl (S_nil ?_))))
       refine C_if (b := (p0.Kind == (6 : Int))) rfl hF (fun hb36 hF => ?_) (fun hb36 hF => ?_)
       ·
        refine C_seq (C_reg (mdl []) (S_faQ rfl ty_fd_30_4 ty_sz_9 rfl (S_ldQ rfl (p_one ty_ag_9 ty_sz_9 rfl) (S_cat rfl rfl hF (fun hF => S_cat rfl rfl hF (fun hF => S_a (v := .str _) rfl (S_nil (WP_ret ?_))))))))
        repeat (first | with_reducible refine Exit.sel_ret ?_ | with_reducible refine Exit.blk_ret ?_ | with_reducible refine Exit.jmp_ret ?_)
        refine C_ret (fn := Tryd.f11) rfl (.tmp (v := .str ((([60, 33, 91, 67, 68, 65, 84, 65, 91] : List UInt8) ++ p0.Text) ++ ([93, 93, 62] : List UInt8))) rfl .nil) ?_
        exact ⟨_, _, (.refl _), ok.wh, _, F_some hF, rfl, rfl⟩
       ·
        refine C_seq (C_reg (mdl []) (S_bin rfl rfl (ev_eql ..) (S_a (v := .bool _) rfl (S_nil ?_))))
        refine C_if (b := (p0.Kind == (7 : Int))) rfl hF (fun hb37 hF => ?_) (fun hb37 hF => ?_)
        ·
         refine C_seq (C_reg (mdl []) (S_faQ rfl ty_fd_30_4 ty_sz_9 rfl (S_ldQ rfl (p_one ty_ag_9 ty_sz_9 rfl) (S_cat rfl rfl hF (fun hF => S_cat rfl rfl hF (fun hF => S_a (v := .str _) rfl (S_nil (WP_ret ?_))))))))
         repeat (first | with_reducible refine Exit.sel_ret ?_ | with_reducible refine Exit.blk_ret ?_ | with_reducible refine Exit.jmp_ret ?_)
         refine C_ret (fn := Tryd.f11) rfl (.tmp (v := .str ((([60, 33, 45, 45] : List UInt8) ++ p0.Text) ++ ([45, 45, 62] : List UInt8))) rfl .nil) ?_
         exact ⟨_, _, (.refl _), ok.wh, _, F_some hF, rfl, rfl⟩
        ·
         refine WP_skip (C_seq (C_seq (C_reg (mdl []) (S_faQ rfl ty_fd_30_4 ty_sz_9 rfl (S_ldQ rfl (p_one ty_ag_9 ty_sz_9 rfl) (S_bin rfl rfl e_seql (S_nil ?_)))))))
         refine C_if (b := (p0.Text == ([] : List UInt8))) rfl hF (fun hb38 hF => ?_) (fun hb38 hF => ?_)
         ·
          refine C_seq (C_reg (mdl []) (S_faQ rfl ty_fd_30_2 ty_sz_9 rfl (S_ldQ rfl (p_one ty_ag_9 ty_sz_9 rfl) (S_cat rfl rfl hF (fun hF => S_cat rfl rfl hF (fun hF => S_a (v := .str _) rfl (S_nil (WP_ret ?_))))))))
          repeat (first | with_reducible refine Exit.sel_ret ?_ | with_reducible refine Exit.blk_ret ?_ | with_reducible refine Exit.jmp_ret ?_)
          refine C_ret (fn := Tryd.f11) rfl (.tmp (v := .str ((([60, 63] : List UInt8) ++ p0.Name) ++ ([63, 62] : List UInt8))) rfl .nil) ?_
          exact ⟨_, _, (.refl _), ok.wh, _, F_some hF, rfl, rfl⟩
         ·
          refine WP_skip (C_seq (C_reg (mdl []) (S_faQ rfl ty_fd_30_2 ty_sz_9 rfl (S_ldQ rfl (p_one ty_ag_9 ty_sz_9 rfl) (S_cat rfl rfl hF (fun hF => S_cat rfl rfl hF (fun hF => S_faQ rfl ty_fd_30_4 ty_sz_9 rfl (S_ldQ rfl (p_one ty_ag_9 ty_sz_9 rfl) (S_cat rfl rfl hF (fun hF => S_cat rfl rfl hF (fun hF => S_a (v := .str _) rfl (S_nil (WP_ret ?_)))))))))))))
          repeat (first | with_reducible refine Exit.sel_ret ?_ | with_reducible refine Exit.blk_ret ?_ | with_reducible refine Exit.jmp_ret ?_)
          refine C_ret (fn := Tryd.f11) rfl (.tmp (v := .str ((((([60, 63] : List UInt8) ++ p0.Name) ++ ([32] : List UInt8)) ++ p0.Text) ++ ([63, 62] : List UInt8))) rfl .nil) ?_
          exact ⟨_, _, (.refl _), ok.wh, _, F_some hF, rfl, rfl⟩
theorem F_lecternlaw03_shown_ok {β : Type} {f : (List UInt8) → Option β} {G : β → Prop} {R : D → Heap → Prop} {p0 : T_scan_Token} {p1 : List UInt8} (h : Heap) (hF : OptP ((F_lecternlaw03_shown p0 p1).bind f) G) (hk : ∀ r, F_lecternlaw03_shown p0 p1 = some r → OptP (f r) G → R (.str r) h) : CallsA Tryd.prog 11 [.agg (c_T_scan_Token p0), .str p1] h R := by
 obtain ⟨r0, hr, hF⟩ := F_bind hF
 refine (F_lecternlaw03_shown_w (G := fun r => r = r0) p0 p1 h ⟨r0, hr, rfl⟩).mono ?_
 rintro _ _ ⟨r, rfl, rfl, rfl⟩
 exact hk _ hr hF
theorem F_lecternlaw03_marked_w (p0 : List UInt8) {G : (List UInt8) → Prop} (h : Heap) (hF : OptP (F_lecternlaw03_marked p0) G) : CallsA Tryd.prog 12 [.str p0] h fun d h' => ∃ r, G r ∧ d = .sl 1 (List.map c_u8 r) 0 ∧ h' = h := by
 refine CallsA.ret (C_body Tryd.func12 rfl en_12 Tryd.ntmps12 rfl (fun ok => ?_))
 rw [F_lecternlaw03_marked] at hF
 refine C_seq (C_reg (mdl []) (S_a (v := .snil) rfl (S_one 2 (v := .sl 1 (List.map c_u8 ([] : List UInt8)) 0) (.nil _) (S_nil ?_))))
 refine C_join hF (fun (a14 : (List UInt8)) s' => OK h [] ∧ WS s' ⟨mkSl 25 [(0, .str a14)], Hp h []⟩) (fun J15 hF => ?_) ?_
 ·
  refine C_seq (C_reg (mdl []) (S_m (v := .str _) rfl (S_lenS rfl ty_st_9 (S_bin rfl rfl (ev_gtr ..) (S_m (v := .bool _) rfl ?_)))))
  refine S_twoJ 4 10 hF (fun J17 hb16 hF => ?_) (fun J17 hb16 hF => ?_) (fun v18 hF => ?_)
  ·
   refine S_on rfl rfl hb16 (S_in (S_m (v := .str _) rfl (S_nil (S_on rfl rfl hb16 (S_in (S_ixS rfl rfl ty_st_9 hF (fun x19 _ hF => S_nil (S_on rfl rfl hb16 (S_in (S_bin rfl rfl (ev_eql ..) (S_nil (S_pickT (v := .bool _) rfl hb16 rfl (S_nil ?_)))))))))))))
   refine ⟨_, hF, .hd (.refl _) ?_⟩
   repeat (first | with_reducible exact WS.refl _ | refine WS.add ?_ rfl | exact WS.refl _)
  ·
   refine S_off rfl rfl hb16 (S_offD (S_off rfl rfl hb16 (S_offD (S_off rfl rfl hb16 (S_offD (S_pickF (v := .bool _) rfl hb16 rfl (S_nil ?_)))))))
   refine ⟨_, hF, .hd (.refl _) ?_⟩
   repeat (first | with_reducible exact WS.refl _ | refine WS.add ?_ rfl | exact WS.refl _)
  ·
   refine S_m (v := .bool _) rfl ?_
   refine S_twoJ 4 15 hF (fun J21 hb20 hF => ?_) (fun J21 hb20 hF => ?_) (fun v22 hF => ?_)
   ·
    refine S_on rfl rfl hb20 (S_in (S_m (v := .str _) rfl (S_nil (S_on rfl rfl hb20 (S_in (S_ixS rfl rfl ty_st_9 hF (fun x23 _ hF => S_nil (S_on rfl rfl hb20 (S_in (S_bin rfl rfl (ev_eql ..) (S_nil (S_pickT (v := .bool _) rfl hb20 rfl (S_nil ?_)))))))))))))
    refine ⟨_, hF, .hd (.refl _) ?_⟩
    repeat (first | with_reducible exact WS.refl _ | refine WS.add ?_ rfl | exact WS.refl _)
   ·
    refine S_off rfl rfl hb20 (S_offD (S_off rfl rfl hb20 (S_offD (S_off rfl rfl hb20 (S_offD (S_pickF (v := .bool _) rfl hb20 rfl (S_nil ?_)))))))
    refine ⟨_, hF, .hd (.refl _) ?_⟩
    repeat (first | with_reducible exact WS.refl _ | refine WS.add ?_ rfl | exact WS.refl _)
   ·
    refine S_m (v := .bool _) rfl ?_
    refine S_twoJ 4 20 hF (fun J25 hb24 hF => ?_) (fun J25 hb24 hF => ?_) (fun v26 hF => ?_)
    ·
     refine S_on rfl rfl hb24 (S_in (S_m (v := .str _) rfl (S_nil (S_on rfl rfl hb24 (S_in (S_ixS rfl rfl ty_st_9 hF (fun x27 _ hF => S_nil (S_on rfl rfl hb24 (S_in (S_bin rfl rfl (ev_eql ..) (S_nil (S_pickT (v := .bool _) rfl hb24 rfl (S_nil ?_)))))))))))))
     refine ⟨_, hF, .hd (.refl _) ?_⟩
     repeat (first | with_reducible exact WS.refl _ | refine WS.add ?_ rfl | exact WS.refl _)
    ·
     refine S_off rfl rfl hb24 (S_offD (S_off rfl rfl hb24 (S_offD (S_off rfl rfl hb24 (S_offD (S_pickF (v := .bool _) rfl hb24 rfl (S_nil ?_)))))))
     refine ⟨_, hF, .hd (.refl _) ?_⟩
     repeat (first | with_reducible exact WS.refl _ | refine WS.add ?_ rfl | exact WS.refl _)
    ·
     refine S_nil ?_
     refine C_if (b := v26) rfl hF (fun hb28 hF => ?_) (fun hb28 hF => ?_)
     ·
      refine C_reg (mdl []) (S_m (v := .str _) rfl (S_cat rfl rfl hF (fun hF => S_a (v := .str _) rfl (S_nil ?_))))
      have hwo : WO [] [] := .nil
      exact ⟨(([239, 187, 191] : List UInt8) ++ p0), hF, (hwo.spec ok).1, WS.mk' (.cons (.refl _) .nil) ok hwo⟩
     ·
      refine WP_skip ?_
      have hwo : WO [] [] := .nil
      exact ⟨p0, hF, (hwo.spec ok).1, WS.mk' (.cons (.refl _) .nil) ok hwo⟩
 ·
  rintro a14 s' hF ⟨ok, hws⟩
  refine WP_ws hws ?_
  clear hws s'
  refine C_seq (C_reg (mdl []) (S_m (v := .str _) rfl (S_byt0 rfl rfl ty_sl_22 ty_st_9 ty_ki_5 (S_a (v := .sl _ _ _) rfl (S_nil (WP_ret ?_))))))
  repeat (first | with_reducible refine Exit.sel_ret ?_ | with_reducible refine Exit.blk_ret ?_ | with_reducible refine Exit.jmp_ret ?_)
  refine C_ret (fn := Tryd.f12) rfl (.tmp (v := .sl 1 (List.map c_u8 a14) 0) rfl .nil) ?_
  exact ⟨_, _, (.refl _), ok.wh, _, F_some hF, rfl, rfl⟩
theorem F_lecternlaw03_marked_ok {β : Type} {f : (List UInt8) → Option β} {G : β → Prop} {R : D → Heap → Prop} {p0 : List UInt8} (h : Heap) (hF : OptP ((F_lecternlaw03_marked p0).bind f) G) (hk : ∀ r, F_lecternlaw03_marked p0 = some r → OptP (f r) G → R (.sl 1 (List.map c_u8 r) 0) h) : CallsA Tryd.prog 12 [.str p0] h R := by
 obtain ⟨r0, hr, hF⟩ := F_bind hF
 refine (F_lecternlaw03_marked_w (G := fun r => r = r0) p0 h ⟨r0, hr, rfl⟩).mono ?_
 rintro _ _ ⟨r, rfl, rfl, rfl⟩
 exact hk _ hr hF
theorem F_lecternlaw03_doc_w (p0 : T_scan_Token) {G : T_lecternref03_Token → Prop} (h : Heap) (hF : OptP (F_lecternlaw03_doc p0) G) : CallsA Tryd.prog 13 [.agg (c_T_scan_Token p0)] h fun d h' => ∃ r, G r ∧ d = .agg (c_T_lecternref03_Token r) ∧ h' = h := by
 refine CallsA.ret (C_body Tryd.func13 rfl en_13 Tryd.ntmps13 rfl (fun ok => ?_))
 rw [F_lecternlaw03_doc] at hF
 refine C_seq (C_reg (mdl [(2, 1)]) (S_box0 rfl rfl rfl rfl (S_all1 ok rfl ty_zc_40 ?_)))
 intro i1 hi1 ok
 refine S_nil (C_seq (C_reg (mdl [(3, 1)]) (S_faQ rfl ty_fd_30_0 ty_sz_3 rfl (S_ldQ rfl (p_one ty_ag_3 ty_sz_3 rfl) (S_faQ rfl ty_fd_30_1 ty_sz_3 rfl (S_ldQ rfl (p_one ty_ag_3 ty_sz_3 rfl) (S_faQ rfl ty_fd_30_2 ty_sz_9 rfl (S_ldQ rfl (p_one ty_ag_9 ty_sz_9 rfl) (S_faQ rfl ty_fd_30_4 ty_sz_9 rfl (S_ldQ rfl (p_one ty_ag_9 ty_sz_9 rfl) (S_faQ rfl ty_fd_30_5 ty_sz_3 rfl (S_ldQ rfl (p_one ty_ag_3 ty_sz_3 rfl) (S_bld (v := .agg [.int .i64 p0.Kind, .int .i64 p0.At, .str p0.Name, .snil, .str p0.Text, .int .i64 p0.Refs]) (b_st ty_zc_40 ty_pl_40 rfl) (S_all1 ok rfl ty_zc_40 ?_))))))))))))))
 intro i2 hi2 ok
 refine S_st (j := 0) (cs' := [.int .i64 p0.Kind, .int .i64 p0.At, .str p0.Name, .snil, .str p0.Text, .int .i64 p0.Refs]) ok rfl rfl rfl hi2 rfl ty_sz_40 rfl rfl (fun ok => S_ghostO 0 3 2 (fun r3 => [.int .i64 p0.Kind, .int .i64 p0.At, .str p0.Name, .sl 2 (List.map c_T_scan_Pair ([] : List T_scan_Pair)) r3, .str p0.Text, .int .i64 p0.Refs]) ok rfl hi2 rfl (fun _ => rfl) ?_)
 intro r3 hr3 ok
 refine S_nil ?_
 refine C_join hF (fun (v : Int × Int × (List UInt8) × (List T_scan_Pair) × (List UInt8) × Int) s' => match v with | (a16, a17, a18, a19, a21, a22) => ∃ g20 : Nat, g20 ≠ 0 ∧ OK h [(g20, .room), (i2, .cells [.int .i64 a16, .int .i64 a17, .str a18, .sl 2 (List.map c_T_scan_Pair a19) g20, .str a21, .int .i64 a22]), (i1, .cells [.int .i64 (0 : Int), .int .i64 (0 : Int), .str ([] : List UInt8), .sl 2 (List.map c_T_scan_Pair ([] : List T_scan_Pair)) 0, .str ([] : List UInt8), .int .i64 (0 : Int)])] ∧ WS s' ⟨mkSl 36 [(2, .ptr i1 0), (3, .ptr i2 0)], Hp h [(g20, .room), (i2, .cells [.int .i64 a16, .int .i64 a17, .str a18, .sl 2 (List.map c_T_scan_Pair a19) g20, .str a21, .int .i64 a22]), (i1, .cells [.int .i64 (0 : Int), .int .i64 (0 : Int), .str ([] : List UInt8), .sl 2 (List.map c_T_scan_Pair ([] : List T_scan_Pair)) 0, .str ([] : List UInt8), .int .i64 (0 : Int)])]⟩) (fun J23 hF => ?_) ?_
 ·
  refine C_seq (C_reg (mdl []) (S_faQ rfl ty_fd_30_3 ty_sz_28 rfl (S_ldQ rfl (p_one ty_ag_28 ty_sz_28 rfl) (S_lenL rfl ty_sl_28 (S_m (v := .int _ _) rfl (S_nil (WP_block ?_)))))))
  refine C_loop (σ := Int × Int × (List UInt8) × (List T_scan_Pair) × (List UInt8) × Int × Int) hF (fun (v : Int × Int × (List UInt8) × (List T_scan_Pair) × (List UInt8) × Int × Int) s' => match v with | (a24, a25, a26, a27, a29, a30, a31) => ∃ g28 : Nat, g28 ≠ 0 ∧ OK h [(g28, .room), (i2, .cells [.int .i64 a24, .int .i64 a25, .str a26, .sl 2 (List.map c_T_scan_Pair a27) g28, .str a29, .int .i64 a30]), (i1, .cells [.int .i64 (0 : Int), .int .i64 (0 : Int), .str ([] : List UInt8), .sl 2 (List.map c_T_scan_Pair ([] : List T_scan_Pair)) 0, .str ([] : List UInt8), .int .i64 (0 : Int)])] ∧ WS s' ⟨mkSl 36 [(2, .ptr i1 0), (3, .ptr i2 0), (18, .sl 2 (List.map c_T_scan_Pair p0.Pairs) 0), (19, .int .i64 (p0.Pairs.length : Int)), (20, .int .i64 a31)], Hp h [(g28, .room), (i2, .cells [.int .i64 a24, .int .i64 a25, .str a26, .sl 2 (List.map c_T_scan_Pair a27) g28, .str a29, .int .i64 a30]), (i1, .cells [.int .i64 (0 : Int), .int .i64 (0 : Int), .str ([] : List UInt8), .sl 2 (List.map c_T_scan_Pair ([] : List T_scan_Pair)) 0, .str ([] : List UInt8), .int .i64 (0 : Int)])]⟩) ?_ ?_
  ·
   have hwo : WO [(r3, .room), (i2, .cells [.int .i64 p0.Kind, .int .i64 p0.At, .str p0.Name, .sl 2 (List.map c_T_scan_Pair ([] : List T_scan_Pair)) r3, .str p0.Text, .int .i64 p0.Refs]), (i1, .cells [.int .i64 (0 : Int), .int .i64 (0 : Int), .str ([] : List UInt8), .snil, .str ([] : List UInt8), .int .i64 (0 : Int)])] [(r3, .room), (i2, .cells [.int .i64 p0.Kind, .int .i64 p0.At, .str p0.Name, .sl 2 (List.map c_T_scan_Pair ([] : List T_scan_Pair)) r3, .str p0.Text, .int .i64 p0.Refs]), (i1, .cells [.int .i64 (0 : Int), .int .i64 (0 : Int), .str ([] : List UInt8), .sl 2 (List.map c_T_scan_Pair ([] : List T_scan_Pair)) 0, .str ([] : List UInt8), .int .i64 (0 : Int)])] := (.keep (.keep (.weak (.cons (.refl _) (.cons (.refl _) (.cons (.refl _) (.cons (.nil _) (.cons (.refl _) (.cons (.refl _) (.nil))))))) .nil)))
   exact ⟨r3, hr3, (hwo.spec ok).1, WS.mk' (.cons (.refl _) (.cons (.refl _) (.cons (.refl _) (.cons (.refl _) (.cons (.refl _) .nil))))) ok hwo⟩
  ·
   rintro G32 hG33 rec34 ⟨a24, a25, a26, a27, a29, a30, a31⟩ s' ih35 hF ⟨g28, hg28, ok, hws⟩
   refine WP_ws hws ?_
   clear hws s'
   rw [F_lecternlaw03_doc_l0] at hF
   refine C_seq (C_reg (mdl []) (S_bin rfl rfl (ev_lss ..) (S_nil (C_seq ?_))))
   refine C_if (b := (decide (a31 < (p0.Pairs.length : Int)))) rfl hF (fun hb36 hF => ?_) (fun hb36 hF => ?_)
   ·
    refine WP_skip (C_seq (WP_block (C_seq (C_reg (mdl [(5, 1)]) (S_ix rfl rfl ty_sl_28 ty_sz_32 hF (fun x37 _ hF => S_ldQ rfl (p_agg (vs := c_T_scan_Pair x37) ty_ag_32 ty_sz_32 rfl rfl) (S_all1 ok rfl ty_zc_32 ?_)))))))
    intro i38 hi38 ok
    refine S_st (j := 0) (cs' := [.str x37.Name, .str x37.Value]) ok rfl rfl rfl hi38 rfl ty_sz_32 rfl rfl (fun ok => S_nil (C_reg (mdl [(32, 2)]) (S_faP rfl ty_fd_40_3 ty_sz_38 (S_ldP (j := 2) ok rfl rfl rfl hi2 (p_one (v := .sl 2 (List.map c_T_scan_Pair a27) g28) ty_ag_38 ty_sz_38 rfl) (S_faP rfl ty_fd_32_0 ty_sz_9 (S_ldP (j := 0) ok rfl rfl rfl hi38 (p_one (v := .str x37.Name) ty_ag_9 ty_sz_9 rfl) (S_faP rfl ty_fd_32_1 ty_sz_9 (S_ldP (j := 0) ok rfl rfl rfl hi38 (p_one (v := .str x37.Value) ty_ag_9 ty_sz_9 rfl) (S_bld (v := .agg (c_T_scan_Pair x37)) (b_st ty_zc_60 ty_pl_60 rfl) ?_)))))))))
    refine S_lit0 (cs := [.str x37.Name, .str x37.Value]) (es := (List.map c_T_scan_Pair [x37])) rfl ty_el_38 rfl (by kernel_rfl) (by kernel_rfl) ?_
    refine S_app (j := 1) ok rfl rfl rfl rfl hg28 ty_el_38 ty_ni_38 hF ?_
    intro r39 hr39 ok hF
    refine S_faP rfl ty_fd_40_3 ty_sz_38 (S_st (j := 2) (cs' := [.int .i64 a24, .int .i64 a25, .str a26, .sl 2 (List.map c_T_scan_Pair (a27 ++ [x37])) r39, .str a29, .int .i64 a30]) ok rfl rfl rfl hi2 rfl ty_sz_38 rfl rfl (fun ok => S_nil (C_reg (mdl []) (S_bin rfl rfl (ev_add ..) (S_m (v := .int _ _) rfl (S_nil (ih35 (a24, a25, a26, (a27 ++ [x37]), a29, a30, (IntKind.wrap .i64 (a31 + (1 : Int)))) _ hF ?_)))))))
    have hwo : WO [(i38, .cells [.str x37.Name, .str x37.Value]), (r39, .room), (i2, .cells [.int .i64 a24, .int .i64 a25, .str a26, .sl 2 (List.map c_T_scan_Pair (a27 ++ [x37])) r39, .str a29, .int .i64 a30]), (i1, .cells [.int .i64 (0 : Int), .int .i64 (0 : Int), .str ([] : List UInt8), .sl 2 (List.map c_T_scan_Pair ([] : List T_scan_Pair)) 0, .str ([] : List UInt8), .int .i64 (0 : Int)])] [(r39, .room), (i2, .cells [.int .i64 a24, .int .i64 a25, .str a26, .sl 2 (List.map c_T_scan_Pair (a27 ++ [x37])) r39, .str a29, .int .i64 a30]), (i1, .cells [.int .i64 (0 : Int), .int .i64 (0 : Int), .str ([] : List UInt8), .sl 2 (List.map c_T_scan_Pair ([] : List T_scan_Pair)) 0, .str ([] : List UInt8), .int .i64 (0 : Int)])] := (.drop (.keep (.keep (.keep .nil))))
    exact ⟨r39, hr39, (hwo.spec ok).1, WS.mk' (.cons (.refl _) (.cons (.refl _) (.cons (.refl _) (.cons (.refl _) (.cons (.refl _) .nil))))) ok hwo⟩
   ·
    refine WP_exit ?_
    simp only [Exit.sel, Exit.blk, Exit.jmp, if_true, if_false, reduceIte, Nat.reduceEqDiff, Nat.succ_ne_zero, Nat.zero_ne_one, Nat.one_ne_zero]
    replace hF := hG33 _ (F_some hF)
    have hwo : WO [(g28, .room), (i2, .cells [.int .i64 a24, .int .i64 a25, .str a26, .sl 2 (List.map c_T_scan_Pair a27) g28, .str a29, .int .i64 a30]), (i1, .cells [.int .i64 (0 : Int), .int .i64 (0 : Int), .str ([] : List UInt8), .sl 2 (List.map c_T_scan_Pair ([] : List T_scan_Pair)) 0, .str ([] : List UInt8), .int .i64 (0 : Int)])] [(g28, .room), (i2, .cells [.int .i64 a24, .int .i64 a25, .str a26, .sl 2 (List.map c_T_scan_Pair a27) g28, .str a29, .int .i64 a30]), (i1, .cells [.int .i64 (0 : Int), .int .i64 (0 : Int), .str ([] : List UInt8), .sl 2 (List.map c_T_scan_Pair ([] : List T_scan_Pair)) 0, .str ([] : List UInt8), .int .i64 (0 : Int)])] := (.keep (.keep (.keep .nil)))
    exact ⟨(a24, a25, a26, a27, a29, a30), hF, g28, hg28, (hwo.spec ok).1, WS.mk' (.cons (.refl _) (.cons (.refl _) .nil)) ok hwo⟩
 ·
  rintro ⟨a16, a17, a18, a19, a21, a22⟩ s' hF ⟨g20, hg20, ok, hws⟩
  refine WP_ws hws ?_
  clear hws s'
  refine C_seq (C_reg (mdl []) (S_ldP (j := 1) ok rfl rfl rfl hi2 (p_agg (vs := [.int .i64 a16, .int .i64 a17, .str a18, .sl 2 (List.map c_T_scan_Pair a19) g20, .str a21, .int .i64 a22]) ty_ag_40 ty_sz_40 rfl rfl) (S_one 35 (v := .agg (c_T_lecternref03_Token (⟨a16, a17, a18, a19, a21, a22⟩ : T_lecternref03_Token))) (.aggC (.cons (.refl _) (.cons (.refl _) (.cons (.refl _) (.cons (.zero _ _ _) (.cons (.refl _) (.cons (.refl _) (.nil)))))))) (S_st (j := 2) (cs' := [.int .i64 (⟨a16, a17, a18, a19, a21, a22⟩ : T_lecternref03_Token).Kind, .int .i64 (⟨a16, a17, a18, a19, a21, a22⟩ : T_lecternref03_Token).At, .str (⟨a16, a17, a18, a19, a21, a22⟩ : T_lecternref03_Token).Name, .sl 2 (List.map c_T_scan_Pair (⟨a16, a17, a18, a19, a21, a22⟩ : T_lecternref03_Token).Pairs) 0, .str (⟨a16, a17, a18, a19, a21, a22⟩ : T_lecternref03_Token).Text, .int .i64 (⟨a16, a17, a18, a19, a21, a22⟩ : T_lecternref03_Token).Refs]) ok rfl rfl rfl hi1 rfl ty_sz_40 rfl rfl (fun ok => S_nil (WP_ret ?_))))))
  repeat (first | with_reducible refine Exit.sel_ret ?_ | with_reducible refine Exit.blk_ret ?_ | with_reducible refine Exit.jmp_ret ?_)
  refine C_ret (fn := Tryd.f13) rfl (.cell rfl (ld_ptr (j := 2) ok rfl hi1 (p_agg (vs := [.int .i64 (⟨a16, a17, a18, a19, a21, a22⟩ : T_lecternref03_Token).Kind, .int .i64 (⟨a16, a17, a18, a19, a21, a22⟩ : T_lecternref03_Token).At, .str (⟨a16, a17, a18, a19, a21, a22⟩ : T_lecternref03_Token).Name, .sl 2 (List.map c_T_scan_Pair (⟨a16, a17, a18, a19, a21, a22⟩ : T_lecternref03_Token).Pairs) 0, .str (⟨a16, a17, a18, a19, a21, a22⟩ : T_lecternref03_Token).Text, .int .i64 (⟨a16, a17, a18, a19, a21, a22⟩ : T_lecternref03_Token).Refs]) ty_ag_40 ty_sz_40 rfl rfl)) .nil) ?_
  exact ⟨_, _, (.aggC (.cons (.refl _) (.cons (.refl _) (.cons (.refl _) (.cons (.refl _) (.cons (.refl _) (.cons (.refl _) (.nil)))))))), ok.wh, _, F_some hF, rfl, rfl⟩
theorem F_lecternlaw03_doc_ok {β : Type} {f : T_lecternref03_Token → Option β} {G : β → Prop} {R : D → Heap → Prop} {p0 : T_scan_Token} (h : Heap) (hF : OptP ((F_lecternlaw03_doc p0).bind f) G) (hk : ∀ r, F_lecternlaw03_doc p0 = some r → OptP (f r) G → R (.agg (c_T_lecternref03_Token r)) h) : CallsA Tryd.prog 13 [.agg (c_T_scan_Token p0)] h R := by
 obtain ⟨r0, hr, hF⟩ := F_bind hF
 refine (F_lecternlaw03_doc_w (G := fun r => r = r0) p0 h ⟨r0, hr, rfl⟩).mono ?_
 rintro _ _ ⟨r, rfl, rfl, rfl⟩
 exact hk _ hr hF
theorem F_lecternref03_Same_w (p0 : T_lecternref03_Token) (p1 : T_lecternref03_Token) {G : Bool → Prop} (h : Heap) (hF : OptP (F_lecternref03_Same p0 p1) G) : CallsA Tryd.prog 14 [.agg (c_T_lecternref03_Token p0), .agg (c_T_lecternref03_Token p1)] h fun d h' => ∃ r, G r ∧ d = .bool r ∧ h' = h := by
 refine CallsA.ret (C_body Tryd.func14 rfl en_14 Tryd.ntmps14 rfl (fun ok => ?_))
 rw [F_lecternref03_Same] at hF
 refine C_seq (C_reg (mdl []) (S_box0 rfl rfl rfl rfl (S_box0 rfl rfl rfl rfl (S_a (v := .bool _) rfl (S_nil (C_seq (C_seq (C_reg (mdl []) (S_faQ rfl ty_fd_40_0 ty_sz_3 rfl (S_ldQ rfl (p_one ty_ag_3 ty_sz_3 rfl) (S_faQ rfl ty_fd_40_0 ty_sz_3 rfl (S_ldQ rfl (p_one ty_ag_3 ty_sz_3 rfl) (S_bin rfl rfl (ev_neq ..) (S_m (v := .bool _) rfl ?_))))))))))))))
 refine S_two (b := (p0.Kind != p1.Kind)) 6 17 (.bool ((p0.Kind != p1.Kind) || (!(p0.Name == p1.Name)))) (fun hb1 => ?_) (fun hb1 => ?_) ?_
 ·
  refine S_off rfl rfl hb1 (S_offD (S_off rfl rfl hb1 (S_offD (S_off rfl rfl hb1 (S_offD (S_off rfl rfl hb1 (S_offD (S_off rfl rfl hb1 (S_offD (S_pickT (v := .bool _) rfl hb1 rfl (S_nil (.hd (or_t hb1) ?_))))))))))))
  repeat (first | with_reducible exact WS.refl _ | refine WS.add ?_ rfl | exact WS.refl _)
 ·
  refine S_on rfl rfl hb1 (S_in (S_faQ rfl ty_fd_40_2 ty_sz_9 rfl (S_nil (S_on rfl rfl hb1 (S_in (S_ldQ rfl (p_one ty_ag_9 ty_sz_9 rfl) (S_nil (S_on rfl rfl hb1 (S_in (S_faQ rfl ty_fd_40_2 ty_sz_9 rfl (S_nil (S_on rfl rfl hb1 (S_in (S_ldQ rfl (p_one ty_ag_9 ty_sz_9 rfl) (S_nil (S_on rfl rfl hb1 (S_in (S_bin rfl rfl e_sneq (S_nil (S_pickF (v := .bool _) rfl hb1 rfl (S_nil (.hd (or_f hb1) ?_))))))))))))))))))))))
  repeat (first | with_reducible exact WS.refl _ | refine WS.add ?_ rfl | exact WS.refl _)
 refine S_m (v := .bool _) rfl ?_
 refine S_two (b := ((p0.Kind != p1.Kind) || (!(p0.Name == p1.Name)))) 6 24 (.bool (((p0.Kind != p1.Kind) || (!(p0.Name == p1.Name))) || (!(p0.Text == p1.Text)))) (fun hb2 => ?_) (fun hb2 => ?_) ?_
 ·
  refine S_off rfl rfl hb2 (S_offD (S_off rfl rfl hb2 (S_offD (S_off rfl rfl hb2 (S_offD (S_off rfl rfl hb2 (S_offD (S_off rfl rfl hb2 (S_offD (S_pickT (v := .bool _) rfl hb2 rfl (S_nil (.hd (or_t hb2) ?_))))))))))))
  repeat (first | with_reducible exact WS.refl _ | refine WS.add ?_ rfl | exact WS.refl _)
 ·
  refine S_on rfl rfl hb2 (S_in (S_faQ rfl ty_fd_40_4 ty_sz_9 rfl (S_nil (S_on rfl rfl hb2 (S_in (S_ldQ rfl (p_one ty_ag_9 ty_sz_9 rfl) (S_nil (S_on rfl rfl hb2 (S_in (S_faQ rfl ty_fd_40_4 ty_sz_9 rfl (S_nil (S_on rfl rfl hb2 (S_in (S_ldQ rfl (p_one ty_ag_9 ty_sz_9 rfl) (S_nil (S_on rfl rfl hb2 (S_in (S_bin rfl rfl e_sneq (S_nil (S_pickF (v := .bool _) rfl hb2 rfl (S_nil (.hd (or_f hb2) ?_))))))))))))))))))))))
  repeat (first | with_reducible exact WS.refl _ | refine WS.add ?_ rfl | exact WS.refl _)
 refine S_m (v := .bool _) rfl ?_
 refine S_two (b := (((p0.Kind != p1.Kind) || (!(p0.Name == p1.Name))) || (!(p0.Text == p1.Text)))) 6 31 (.bool ((((p0.Kind != p1.Kind) || (!(p0.Name == p1.Name))) || (!(p0.Text == p1.Text))) || (p0.Refs != p1.Refs))) (fun hb3 => ?_) (fun hb3 => ?_) ?_
 ·
  refine S_off rfl rfl hb3 (S_offD (S_off rfl rfl hb3 (S_offD (S_off rfl rfl hb3 (S_offD (S_off rfl rfl hb3 (S_offD (S_off rfl rfl hb3 (S_offD (S_pickT (v := .bool _) rfl hb3 rfl (S_nil (.hd (or_t hb3) ?_))))))))))))
  repeat (first | with_reducible exact WS.refl _ | refine WS.add ?_ rfl | exact WS.refl _)
 ·
  refine S_on rfl rfl hb3 (S_in (S_faQ rfl ty_fd_40_5 ty_sz_3 rfl (S_nil (S_on rfl rfl hb3 (S_in (S_ldQ rfl (p_one ty_ag_3 ty_sz_3 rfl) (S_nil (S_on rfl rfl hb3 (S_in (S_faQ rfl ty_fd_40_5 ty_sz_3 rfl (S_nil (S_on rfl rfl hb3 (S_in (S_ldQ rfl (p_one ty_ag_3 ty_sz_3 rfl) (S_nil (S_on rfl rfl hb3 (S_in (S_bin rfl rfl (ev_neq ..) (S_nil (S_pickF (v := .bool _) rfl hb3 rfl (S_nil (.hd (or_f hb3) ?_))))))))))))))))))))))
  repeat (first | with_reducible exact WS.refl _ | refine WS.add ?_ rfl | exact WS.refl _)
 refine S_m (v := .bool _) rfl ?_
 refine S_two (b := ((((p0.Kind != p1.Kind) || (!(p0.Name == p1.Name))) || (!(p0.Text == p1.Text))) || (p0.Refs != p1.Refs))) 8 40 (.bool (((((p0.Kind != p1.Kind) || (!(p0.Name == p1.Name))) || (!(p0.Text == p1.Text))) || (p0.Refs != p1.Refs)) || ((p0.Pairs.length : Int) != (p1.Pairs.length : Int)))) (fun hb4 => ?_) (fun hb4 => ?_) ?_
 ·
  refine S_off rfl rfl hb4 (S_offD (S_off rfl rfl hb4 (S_offD (S_off rfl rfl hb4 (S_offD (S_off rfl rfl hb4 (S_offD (S_off rfl rfl hb4 (S_offD (S_off rfl rfl hb4 (S_offD (S_off rfl rfl hb4 (S_offD (S_pickT (v := .bool _) rfl hb4 rfl (S_nil (.hd (or_t hb4) ?_))))))))))))))))
  repeat (first | with_reducible exact WS.refl _ | refine WS.add ?_ rfl | exact WS.refl _)
 ·
  refine S_on rfl rfl hb4 (S_in (S_faQ rfl ty_fd_40_3 ty_sz_38 rfl (S_nil (S_on rfl rfl hb4 (S_in (S_ldQ rfl (p_one ty_ag_38 ty_sz_38 rfl) (S_nil (S_on rfl rfl hb4 (S_in (S_lenL rfl ty_sl_38 (S_nil (S_on rfl rfl hb4 (S_in (S_faQ rfl ty_fd_40_3 ty_sz_38 rfl (S_nil (S_on rfl rfl hb4 (S_in (S_ldQ rfl (p_one ty_ag_38 ty_sz_38 rfl) (S_nil (S_on rfl rfl hb4 (S_in (S_lenL rfl ty_sl_38 (S_nil (S_on rfl rfl hb4 (S_in (S_bin rfl rfl (ev_neq ..) (S_nil (S_pickF (v := .bool _) rfl hb4 rfl (S_nil (.hd (or_f hb4) ?_))))))))))))))))))))))))))))))
  repeat (first | with_reducible exact WS.refl _ | refine WS.add ?_ rfl | exact WS.refl _)
 refine S_nil ?_
 refine C_if (b := (((((p0.Kind != p1.Kind) || (!(p0.Name == p1.Name))) || (!(p0.Text == p1.Text))) || (p0.Refs != p1.Refs)) || ((p0.Pairs.length : Int) != (p1.Pairs.length : Int)))) rfl hF (fun hb5 hF => ?_) (fun hb5 hF => ?_)
 ·
  refine C_seq (C_reg (mdl []) (S_a (v := .bool _) rfl (S_nil (WP_ret ?_))))
  repeat (first | with_reducible refine Exit.sel_ret ?_ | with_reducible refine Exit.blk_ret ?_ | with_reducible refine Exit.jmp_ret ?_)
  refine C_ret (fn := Tryd.f14) rfl (.tmp (v := .bool false) rfl .nil) ?_
  exact ⟨_, _, (.refl _), ok.wh, _, F_some hF, rfl, rfl⟩
 ·
  refine WP_skip ?_
  refine C_join hF (fun (_ : Unit) s' => OK h [] ∧ WS s' ⟨mkSl 59 [], Hp h []⟩) (fun J11 hF => ?_) ?_
  ·
   refine C_seq (C_reg (mdl []) (S_faQ rfl ty_fd_40_3 ty_sz_38 rfl (S_ldQ rfl (p_one ty_ag_38 ty_sz_38 rfl) (S_lenL rfl ty_sl_38 (S_m (v := .int _ _) rfl (S_nil (WP_block ?_)))))))
   refine C_loop (σ := Int) hF (fun (a12 : Int) s' => OK h [] ∧ WS s' ⟨mkSl 59 [(2, .iptr (c_T_lecternref03_Token p0)), (3, .iptr (c_T_lecternref03_Token p1)), (43, .int .i64 (p0.Pairs.length : Int)), (44, .int .i64 a12)], Hp h []⟩) ?_ ?_
   ·
    have hwo : WO [] [] := .nil
    exact ⟨(hwo.spec ok).1, WS.mk' (.cons (.refl _) (.cons (.refl _) (.cons (.refl _) (.cons (.refl _) .nil)))) ok hwo⟩
   ·
    rintro G13 hG14 rec15 a12 s' ih16 hF ⟨ok, hws⟩
    refine WP_ws hws ?_
    clear hws s'
    rw [F_lecternref03_Same_l0] at hF
    refine C_seq (C_reg (mdl []) (S_bin rfl rfl (ev_lss ..) (S_nil (C_seq ?_))))
    refine C_if (b := (decide (a12 < (p0.Pairs.length : Int)))) rfl hF (fun hb17 hF => ?_) (fun hb17 hF => ?_)
    ·
     refine WP_skip (C_seq (WP_block (C_seq (C_reg (mdl []) (S_m (v := .int _ _) rfl (S_a (v := .int _ _) rfl (S_nil (C_seq ?_))))))))
     refine C_drw (mdl [(48, 3), (51, 3), (53, 3), (56, 3)]) (by kernel_rfl) (by kernel_rfl) ?_
     refine S_faQ rfl ty_fd_40_3 ty_sz_38 rfl (S_ldQ rfl (p_one ty_ag_38 ty_sz_38 rfl) (S_m (v := .int _ _) rfl (S_ix rfl rfl ty_sl_38 ty_sz_60 hF (fun x18 _ hF => S_ldQ rfl (p_agg (vs := c_T_scan_Pair x18) ty_ag_60 ty_sz_60 rfl rfl) (S_faQ rfl ty_fd_40_3 ty_sz_38 rfl (S_ldQ rfl (p_one ty_ag_38 ty_sz_38 rfl) (S_m (v := .int _ _) rfl (S_ix rfl rfl ty_sl_38 ty_sz_60 hF (fun x19 _ hF => S_ldQ rfl (p_agg (vs := c_T_scan_Pair x19) ty_ag_60 ty_sz_60 rfl rfl) ?_)))))))))
     refine S_bin rfl rfl (e_aggn (b := ((x18.Name == x19.Name) && ((x18.Value == x19.Value) && true))) ty_qg_60 ty_sf_60 (by simp only [c_T_scan_Pair, ev_eqF_cons, ev_eqF_nil, ev_part, ty_sf_60, ty_qg_60, ty_ag_9, ty_sz_9, ty_st_9, ty_ag_9, ty_sz_9, ty_st_9, ev_eq_int, ev_eq_str, ev_eq_bool, ev_eq_agg, ev_eq_int2, ev_eq_str2, ev_eq_bool2, List.drop_zero, List.drop_succ_cons, List.length_cons, List.length_nil, List.take_succ_cons, List.take_zero, Option.isSome_some, if_true, Option.bind_some, Option.map_some, Nat.reduceAdd, Nat.reduceLeDiff])) ?_
     refine S_nil ?_
     refine C_if (b := (!((x18.Name == x19.Name) && ((x18.Value == x19.Value) && true)))) rfl hF (fun hb20 hF => ?_) (fun hb20 hF => ?_)
     ·
      refine C_seq (C_reg (mdl []) (S_a (v := .bool _) rfl (S_nil (WP_ret ?_))))
      replace hF := hG14 _ (F_some hF)
      repeat (first | with_reducible refine Exit.sel_ret ?_ | with_reducible refine Exit.blk_ret ?_ | with_reducible refine Exit.jmp_ret ?_)
      refine C_ret (fn := Tryd.f14) rfl (.tmp (v := .bool false) rfl .nil) ?_
      exact ⟨_, _, (.refl _), ok.wh, _, F_some hF, rfl, rfl⟩
     ·
      refine WP_skip (C_reg (mdl []) (S_bin rfl rfl (ev_add ..) (S_m (v := .int _ _) rfl (S_nil (ih16 (IntKind.wrap .i64 (a12 + (1 : Int))) _ hF ?_)))))
      have hwo : WO [] [] := .nil
      exact ⟨(hwo.spec ok).1, WS.mk' (.cons (.refl _) (.cons (.refl _) (.cons (.refl _) (.cons (.refl _) .nil)))) ok hwo⟩
    ·
     refine WP_exit ?_
     simp only [Exit.sel, Exit.blk, Exit.jmp, if_true, if_false, reduceIte, Nat.reduceEqDiff, Nat.succ_ne_zero, Nat.zero_ne_one, Nat.one_ne_zero]
     replace hF := hG14 _ (F_some hF)
     have hwo : WO [] [] := .nil
     exact ⟨(), hF, (hwo.spec ok).1, WS.mk' .nil ok hwo⟩
  ·
   rintro ⟨⟩ s' hF ⟨ok, hws⟩
   refine WP_ws hws ?_
   clear hws s'
   refine C_seq (C_reg (mdl []) (S_a (v := .bool _) rfl (S_nil (WP_ret ?_))))
   repeat (first | with_reducible refine Exit.sel_ret ?_ | with_reducible refine Exit.blk_ret ?_ | with_reducible refine Exit.jmp_ret ?_)
   refine C_ret (fn := Tryd.f14) rfl (.tmp (v := .bool true) rfl .nil) ?_
   exact ⟨_, _, (.refl _), ok.wh, _, F_some hF, rfl, rfl⟩
theorem F_lecternref03_Same_ok {β : Type} {f : Bool → Option β} {G : β → Prop} {R : D → Heap → Prop} {p0 : T_lecternref03_Token} {p1 : T_lecternref03_Token} (h : Heap) (hF : OptP ((F_lecternref03_Same p0 p1).bind f) G) (hk : ∀ r, F_lecternref03_Same p0 p1 = some r → OptP (f r) G → R (.bool r) h) : CallsA Tryd.prog 14 [.agg (c_T_lecternref03_Token p0), .agg (c_T_lecternref03_Token p1)] h R := by
 obtain ⟨r0, hr, hF⟩ := F_bind hF
 refine (F_lecternref03_Same_w (G := fun r => r = r0) p0 p1 h ⟨r0, hr, rfl⟩).mono ?_
 rintro _ _ ⟨r, rfl, rfl, rfl⟩
 exact hk _ hr hF
end Go.Proofs.YtfokkdofcekdbaaDoor
