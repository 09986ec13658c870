/- The walks. No condition. -/
import Derived.Test.YtilhbalhkljanaaGreatDoorWs
import Derived.Test.YtilhbalhkljanaaGreatDoorPf
import Derived.Test.YtilhbalhkljanaaGreatDoorTy
import Derived.Test.YtilhbalhkljanaaGreatDoorRk
set_option linter.unusedVariables false
set_option linter.unusedSimpArgs false
set_option maxRecDepth 20000
set_option maxHeartbeats 8000000
namespace Go.Proofs.YtilhbalhkljanaaGreatDoor
theorem F_bytes_Equal_w (p0 : LB) (p1 : LB) {G : Bool → Prop} (h : Heap) (hF : OptP (F_bytes_Equal p0 p1) G) : CallsA Tryz.prog 140 [.sl 1 (List.map c_u8 p0) 0, .sl 1 (List.map c_u8 p1) 0] h fun d h' => ∃ r, G r ∧ d = .bool r ∧ h' = h := by
  refine CallsA.ret (C_body Tryz.func140 rfl en_140 Tryz.ntmps140 rfl (fun ok => ?_))
  rw [F_bytes_Equal] at hF
  refine CR (Ab rfl (Sn (CR (Ml rfl (S_conv rfl (e_cbs ty_sl_22 ty_ki_5 ty_st_9) (Ml rfl (S_conv rfl (e_cbs ty_sl_22 ty_ki_5 ty_st_9) (S_bin rfl rfl e_seql (Ab rfl (Sn (WP_ret ?_)))))))))))
  with_reducible repeat first | apply Exit.sr | apply Exit.br | apply Exit.jr
  refine C_ret (fn := Tryz.f140) rfl (.tmp (v := .bool (p0 == p1)) rfl .nil) ?_
  exact ⟨_, _, (.refl _), ok.wh, _, F_some hF, rfl, rfl⟩
theorem F_bytes_Equal_ok {β : Type} {f : Bool → Option β} {G : β → Prop} {R : D → Heap → Prop} {p0 : LB} {p1 : LB} (h : Heap) (hF : OptP ((F_bytes_Equal p0 p1).bind f) G) (hk : ∀ r, F_bytes_Equal p0 p1 = some r → OptP (f r) G → R (.bool r) h) : CallsA Tryz.prog 140 [.sl 1 (List.map c_u8 p0) 0, .sl 1 (List.map c_u8 p1) 0] h R := by
  obtain ⟨r0, hr, hF⟩ := F_bind hF
  refine (F_bytes_Equal_w (G := fun r => r = r0) p0 p1 h ⟨r0, hr, rfl⟩).mono ?_
  rintro _ _ ⟨r, rfl, rfl, rfl⟩
  exact hk _ hr hF
theorem F_bytes_HasPrefix_w (p0 : LB) (p1 : LB) {G : Bool → Prop} (h : Heap) (hF : OptP (F_bytes_HasPrefix p0 p1) G) : CallsA Tryz.prog 90 [.sl 1 (List.map c_u8 p0) 0, .sl 1 (List.map c_u8 p1) 0] h fun d h' => ∃ r, G r ∧ d = .bool r ∧ h' = h := by
  refine CallsA.ret (C_body Tryz.func90 rfl en_90 Tryz.ntmps90 rfl (fun ok => ?_))
  rw [F_bytes_HasPrefix] at hF
  refine CR (Ab rfl (Sn (CR (Ml rfl (S_lenL rfl ty_sl_22 (Ml rfl (S_lenL rfl ty_sl_22 (S_bin rfl rfl (ev_geq ..) (Mb rfl ?_)))))))))
  refine S_twoJ 7 17 hF (fun J2 hb1 hF => ?_) (fun J2 hb1 hF => ?_) (fun v3 hF => ?_)
  · refine Sx rfl rfl hb1 (Ml rfl (Sn (Sx rfl rfl hb1 (Ml rfl (Sn (Sx rfl rfl hb1 (S_lenL rfl ty_sl_22 (Sn (Sx rfl rfl hb1 (S_slL rfl ty_sl_22 ty_sz_5 bd_no (bd_at rfl) hF (fun x4 _ hF => Sn (Sx rfl rfl hb1 (Ml rfl (Sn (Sx rfl rfl hb1 (S_call (F_bytes_Equal_ok _ hF fun x5 _ hF => (Sn (S_pickT (v := .bool _) rfl hb1 rfl (Sn ?_)))) (.refl _)))))))))))))))))
    refine ⟨_, hF, .hd (.refl _) ?_⟩
    repeat first | with_reducible exact .refl _ | refine .add ?_ rfl | exact .refl _
  · refine So rfl rfl hb1 (So rfl rfl hb1 (So rfl rfl hb1 (So rfl rfl hb1 (So rfl rfl hb1 (So rfl rfl hb1 (S_pickF (v := .bool _) rfl hb1 rfl (Sn ?_)))))))
    refine ⟨_, hF, .hd (.refl _) ?_⟩
    repeat first | with_reducible exact .refl _ | refine .add ?_ rfl | exact .refl _
  · refine Ab rfl (Sn (WP_ret ?_))
    with_reducible repeat first | apply Exit.sr | apply Exit.br | apply Exit.jr
    refine C_ret (fn := Tryz.f90) rfl (.tmp (v := .bool v3) rfl .nil) ?_
    exact ⟨_, _, (.refl _), ok.wh, _, F_some hF, rfl, rfl⟩
theorem F_bytes_HasPrefix_ok {β : Type} {f : Bool → Option β} {G : β → Prop} {R : D → Heap → Prop} {p0 : LB} {p1 : LB} (h : Heap) (hF : OptP ((F_bytes_HasPrefix p0 p1).bind f) G) (hk : ∀ r, F_bytes_HasPrefix p0 p1 = some r → OptP (f r) G → R (.bool r) h) : CallsA Tryz.prog 90 [.sl 1 (List.map c_u8 p0) 0, .sl 1 (List.map c_u8 p1) 0] h R := by
  obtain ⟨r0, hr, hF⟩ := F_bind hF
  refine (F_bytes_HasPrefix_w (G := fun r => r = r0) p0 p1 h ⟨r0, hr, rfl⟩).mono ?_
  rintro _ _ ⟨r, rfl, rfl, rfl⟩
  exact hk _ hr hF
theorem F_bytes_TrimPrefix_w (p0 : LB) (p1 : LB) {G : LB → Prop} (h : Heap) (hF : OptP (F_bytes_TrimPrefix p0 p1) G) : CallsA Tryz.prog 55 [.sl 1 (List.map c_u8 p0) 0, .sl 1 (List.map c_u8 p1) 0] h fun d h' => ∃ r, G r ∧ d = .sl 1 (List.map c_u8 r) 0 ∧ h' = h := by
  refine CallsA.ret (C_body Tryz.func55 rfl en_55 Tryz.ntmps55 rfl (fun ok => ?_))
  rw [F_bytes_TrimPrefix] at hF
  refine CR (S_a (v := .snil) rfl (S_one 4 (v := .sl 1 (List.map c_u8 nB) 0) (.nil _) (Sn (C_seq (CR (Ml rfl (Ml rfl (S_call (F_bytes_HasPrefix_ok _ hF fun x1 _ hF => (Sn ?_)) (.refl _)))))))))
  refine C_if (b := x1) rfl hF (fun hb2 hF => ?_) (fun hb2 hF => ?_)
  · refine CR (Ml rfl (Ml rfl (S_lenL rfl ty_sl_22 (S_slL rfl ty_sl_22 ty_sz_5 (bd_at rfl) bd_len hF (fun x3 _ hF => S_a (v := .sl _ _ _) rfl (Sn (WP_ret ?_)))))))
    with_reducible repeat first | apply Exit.sr | apply Exit.br | apply Exit.jr
    refine C_ret (fn := Tryz.f55) rfl (.tmp (v := .sl 1 (List.map c_u8 x3) 0) rfl .nil) ?_
    exact ⟨_, _, (.refl _), ok.wh, _, F_some hF, rfl, rfl⟩
  · refine WP_skip (CR (Ml rfl (S_a (v := .sl _ _ _) rfl (Sn (WP_ret ?_)))))
    with_reducible repeat first | apply Exit.sr | apply Exit.br | apply Exit.jr
    refine C_ret (fn := Tryz.f55) rfl (.tmp (v := .sl 1 (List.map c_u8 p0) 0) rfl .nil) ?_
    exact ⟨_, _, (.refl _), ok.wh, _, F_some hF, rfl, rfl⟩
theorem F_bytes_TrimPrefix_ok {β : Type} {f : LB → Option β} {G : β → Prop} {R : D → Heap → Prop} {p0 : LB} {p1 : LB} (h : Heap) (hF : OptP ((F_bytes_TrimPrefix p0 p1).bind f) G) (hk : ∀ r, F_bytes_TrimPrefix p0 p1 = some r → OptP (f r) G → R (.sl 1 (List.map c_u8 r) 0) h) : CallsA Tryz.prog 55 [.sl 1 (List.map c_u8 p0) 0, .sl 1 (List.map c_u8 p1) 0] h R := by
  obtain ⟨r0, hr, hF⟩ := F_bind hF
  refine (F_bytes_TrimPrefix_w (G := fun r => r = r0) p0 p1 h ⟨r0, hr, rfl⟩).mono ?_
  rintro _ _ ⟨r, rfl, rfl, rfl⟩
  exact hk _ hr hF
theorem F_char_Lines_w (p0 : LB) {G : LB → Prop} (h : Heap) (hF : OptP (F_char_Lines p0) G) : CallsA Tryz.prog 54 [.sl 1 (List.map c_u8 p0) 0] h fun d h' => ∃ r, G r ∧ d = .sl 1 (List.map c_u8 r) 0 ∧ h' = h := by
  refine CallsA.ret (C_body Tryz.func54 rfl en_54 Tryz.ntmps54 rfl (fun ok => ?_))
  rw [F_char_Lines] at hF
  refine CR (S_a (v := .snil) rfl (S_one 2 (v := .sl 1 (List.map c_u8 nB) 0) (.nil _) (Sn (C_seq (C_reg (mdl [(8, 1)]) (Ml rfl (S_lenL rfl ty_sl_22 (S_mk1O (c := c_u8) (z0 := (0 : UInt8)) ok rfl ty_el_22 rfl rfl rfl hF ?_))))))))
  intro u1 zu1 ok hF
  obtain ⟨a2, ha2, hF⟩ := F_let hF
  rw [← ha2] at ok zu1
  rw [← ha2]
  refine S_a (v := mslO _ _ _) rfl (Sn ?_)
  refine C_join hF (fun (a48 : LB) s' => ∃ g47 : Nat, (g47 = 0 → a48 = []) ∧ OK h [mo g47 c_u8 a48] ∧ WS s' ⟨mkSl 40 [(3, mslO 1 g47 a48)], Hp h [mo g47 c_u8 a48]⟩) (fun J49 hF => ?_) ?_
  · refine CR (Ml rfl (S_lenL rfl ty_sl_22 (Mi rfl (Sn (WP_block ?_)))))
    refine C_loop (σ := LB × Int) hF (fun (v : LB × Int) s' => match v with | (a51, a52) => ∃ g50 : Nat, (g50 = 0 → a51 = []) ∧ OK h [mo g50 c_u8 a51] ∧ WS s' ⟨mkSl 40 [(0, .sl 1 (List.map c_u8 p0) 0), (3, mslO 1 g50 a51), (9, .sl 1 (List.map c_u8 p0) 0), (10, .I (p0.length : Int)), (11, .I a52)], Hp h [mo g50 c_u8 a51]⟩) ?_ ?_
    · exact ⟨u1, zu1, ok, WS.mk' (.k (.k (.k (.k (.k .nil))))) ok (.refl _)⟩
    · rintro G53 hG54 rec55 ⟨a51, a52⟩ s' ih56 hF ⟨g50, zg50, ok, hws⟩
      refine WP_ws hws ?_
      clear hws s'
      rw [F_char_Lines_l0] at hF
      refine CR (S_bin rfl rfl (ev_lss ..) (Sn (C_seq ?_)))
      refine C_if (b := (decide (a52 < (p0.length : Int)))) rfl hF (fun hb57 hF => ?_) (fun hb57 hF => ?_)
      · refine WP_skip ?_
        refine C_join hF (fun (a78 : LB) s' => ∃ g77 : Nat, (g77 = 0 → a78 = []) ∧ OK h [mo g77 c_u8 a78] ∧ WS s' ⟨mkSl 40 [(0, .sl 1 (List.map c_u8 p0) 0), (3, mslO 1 g77 a78), (9, .sl 1 (List.map c_u8 p0) 0), (10, .I (p0.length : Int)), (11, .I a52)], Hp h [mo g77 c_u8 a78]⟩) (fun J79 hF => ?_) ?_
        · refine WP_block (CR (Mi rfl (S_ix rfl rfl ty_sl_22 ty_sz_5 hF (fun x80 _ hF => S_ldQ rfl (p_one ty_ag_5 ty_sz_5 rfl) (Ai rfl (Ai rfl (Sn ?_)))))))
          refine C_join hF (fun (a88 : Int) s' => OK h [mo g50 c_u8 a51] ∧ WS s' ⟨mkSl 40 [(0, .sl 1 (List.map c_u8 p0) 0), (3, mslO 1 g50 a51), (5, .int .u8 a88), (9, .sl 1 (List.map c_u8 p0) 0), (10, .I (p0.length : Int)), (11, .I a52)], Hp h [mo g50 c_u8 a51]⟩) (fun J89 hF => ?_) ?_
          · refine WP_block (CR (Mi rfl (S_bin rfl rfl (ev_eql ..) (Mb rfl ?_))))
            refine S_two (b := ((x80.toNat : Int) == (10 : Int))) 3 22 (.bool (((x80.toNat : Int) == (10 : Int)) && (decide ((0 : Int) < a52)))) (fun hb90 => ?_) (fun hb90 => ?_) ?_
            · refine Sx rfl rfl hb90 (Mi rfl (Sn (Sx rfl rfl hb90 (S_bin rfl rfl (ev_gtr ..) (Sn (S_pickT (v := .bool _) rfl hb90 rfl (Sn (.hd (and_t hb90) ?_))))))))
              repeat first | with_reducible exact .refl _ | refine .add ?_ rfl | exact .refl _
            · refine So rfl rfl hb90 (So rfl rfl hb90 (S_pickF (v := .bool _) rfl hb90 rfl (Sn (.hd (and_f hb90) ?_))))
              repeat first | with_reducible exact .refl _ | refine .add ?_ rfl | exact .refl _
            refine Mb rfl ?_
            refine S_twoJ 7 30 hF (fun J92 hb91 hF => ?_) (fun J92 hb91 hF => ?_) (fun v93 hF => ?_)
            · refine Sx rfl rfl hb91 (Ml rfl (Sn (Sx rfl rfl hb91 (Mi rfl (Sn (Sx rfl rfl hb91 (S_bin rfl rfl (ev_sub ..) (Sn (Sx rfl rfl hb91 (S_ix rfl rfl ty_sl_22 ty_sz_5 hF (fun x94 _ hF => Sn (Sx rfl rfl hb91 (S_ldQ rfl (p_one ty_ag_5 ty_sz_5 rfl) (Sn (Sx rfl rfl hb91 (S_bin rfl rfl (ev_eql ..) (Sn (S_pickT (v := .bool _) rfl hb91 rfl (Sn ?_)))))))))))))))))))
              refine ⟨_, hF, .hd (.refl _) ?_⟩
              repeat first | with_reducible exact .refl _ | refine .add ?_ rfl | exact .refl _
            · refine So rfl rfl hb91 (So rfl rfl hb91 (So rfl rfl hb91 (So rfl rfl hb91 (So rfl rfl hb91 (So rfl rfl hb91 (S_pickF (v := .bool _) rfl hb91 rfl (Sn ?_)))))))
              refine ⟨_, hF, .hd (.refl _) ?_⟩
              repeat first | with_reducible exact .refl _ | refine .add ?_ rfl | exact .refl _
            · refine Ab rfl (Sn ?_)
              refine C_if (b := v93) rfl hF (fun hb95 hF => ?_) (fun hb95 hF => ?_)
              · refine WP_exit ?_
                simp only [Exit.sel, Exit.blk, Exit.jmp, if_true, if_false, reduceIte, Nat.reduceEqDiff, Nat.succ_ne_zero, Nat.zero_ne_one, Nat.one_ne_zero]
                exact ⟨a51, hF, g50, zg50, ok, WS.mk' (.k (.k (.k (.k (.k .nil))))) ok (.refl _)⟩
              · refine CR (Mi rfl (S_bin rfl rfl (ev_eql ..) (Ab rfl (Sn ?_))))
                refine C_if (b := ((x80.toNat : Int) == (13 : Int))) rfl hF (fun hb96 hF => ?_) (fun hb96 hF => ?_)
                · refine C_reg (mdl []) (Ai rfl (Sn ?_))
                  exact ⟨(10 : Int), hF, ok, WS.mk' (.k (.k (.k (.k (.k (.k .nil)))))) ok (.refl _)⟩
                · refine WP_skip ?_
                  exact ⟨(x80.toNat : Int), hF, ok, WS.mk' (.k (.k (.k (.k (.k (.k .nil)))))) ok (.refl _)⟩
          · rintro a88 s' hF ⟨ok, hws⟩
            refine WP_ws hws ?_
            clear hws s'
            refine C_reg (mdl [(37, 1)]) (S_m (v := mslO _ _ _) rfl (Mi rfl ?_))
            obtain ⟨b97, hb97, hF⟩ := F_bind hF
            replace hb97 := u8_spec hb97
            refine S_lit0 (es := List.map c_u8 [b97]) rfl ty_el_22 rfl rfl (by simp only [List.map_cons, List.map_nil, c_u8, hb97]; rfl) ?_
            refine S_appO (j := 0) (M := [b97]) ok zg50 rfl rfl src_sl (fun _ => rfl) rfl ty_el_22 ty_ni_22 hF ?_
            intro u98 zu98 ok hF
            obtain ⟨a99, ha99, hF⟩ := F_let hF
            rw [← ha99] at ok zu98
            rw [← ha99]
            refine S_a (v := mslO _ _ _) rfl (Sn ?_)
            exact ⟨a99, hF, u98, zu98, ok, WS.mk' (.k (.k (.k (.k (.k .nil))))) ok (.refl _)⟩
        · rintro a78 s' hF ⟨g77, zg77, ok, hws⟩
          refine WP_ws hws ?_
          clear hws s'
          refine C_reg (mdl []) (S_bin rfl rfl (ev_add ..) (Mi rfl (Sn (ih56 (a78, (IntKind.wrap .i64 (a52 + (1 : Int)))) _ hF ?_))))
          exact ⟨g77, zg77, ok, WS.mk' (.k (.k (.k (.k (.k .nil))))) ok (.refl _)⟩
      · refine WP_exit ?_
        simp only [Exit.sel, Exit.blk, Exit.jmp, if_true, if_false, reduceIte, Nat.reduceEqDiff, Nat.succ_ne_zero, Nat.zero_ne_one, Nat.one_ne_zero]
        replace hF := hG54 _ (F_some hF)
        exact ⟨a51, hF, g50, zg50, ok, WS.mk' (.k .nil) ok (.refl _)⟩
  · rintro a48 s' hF ⟨g47, zg47, ok, hws⟩
    refine WP_ws hws ?_
    clear hws s'
    refine CR (S_m (v := mslO _ _ _) rfl (S_a (v := mslO _ _ _) rfl (S_frzO 0 2 ok zg47 rfl rfl (fun _ => rfl) (fun ok => Sn (WP_ret ?_)))))
    with_reducible repeat first | apply Exit.sr | apply Exit.br | apply Exit.jr
    refine C_ret (fn := Tryz.f54) rfl (.tmp (v := .sl 1 (List.map c_u8 a48) 0) rfl .nil) ?_
    exact ⟨_, _, (.refl _), ok.wh, _, F_some hF, rfl, rfl⟩
theorem F_char_Lines_ok {β : Type} {f : LB → Option β} {G : β → Prop} {R : D → Heap → Prop} {p0 : LB} (h : Heap) (hF : OptP ((F_char_Lines p0).bind f) G) (hk : ∀ r, F_char_Lines p0 = some r → OptP (f r) G → R (.sl 1 (List.map c_u8 r) 0) h) : CallsA Tryz.prog 54 [.sl 1 (List.map c_u8 p0) 0] h R := by
  obtain ⟨r0, hr, hF⟩ := F_bind hF
  refine (F_char_Lines_w (G := fun r => r = r0) p0 h ⟨r0, hr, rfl⟩).mono ?_
  rintro _ _ ⟨r, rfl, rfl, rfl⟩
  exact hk _ hr hF
theorem F_scan_Plain_w (p0 : LB) {G : LB → Prop} (h : Heap) (hF : OptP (F_scan_Plain p0) G) : CallsA Tryz.prog 25 [.sl 1 (List.map c_u8 p0) 0] h fun d h' => ∃ r, G r ∧ d = .sl 1 (List.map c_u8 r) 0 ∧ h' = h := by
  refine CallsA.ret (C_body Tryz.func25 rfl en_25 Tryz.ntmps25 rfl (fun ok => ?_))
  rw [F_scan_Plain] at hF
  refine CR (S_a (v := .snil) rfl (S_one 2 (v := .sl 1 (List.map c_u8 nB) 0) (.nil _) (Sn (CR (Ml rfl ?_)))))
  obtain ⟨b1, hb1, hF⟩ := F_bind hF
  replace hb1 := u8_spec hb1
  obtain ⟨b2, hb2, hF⟩ := F_bind hF
  replace hb2 := u8_spec hb2
  obtain ⟨b3, hb3, hF⟩ := F_bind hF
  replace hb3 := u8_spec hb3
  refine S_lit0 (es := List.map c_u8 [b1, b2, b3]) rfl ty_el_22 rfl rfl (by simp only [List.map_cons, List.map_nil, c_u8, hb1, hb2, hb3]; rfl) ?_
  refine S_call (F_bytes_TrimPrefix_ok _ hF fun x4 _ hF => (S_call (F_char_Lines_ok _ hF fun x5 _ hF => (S_a (v := .sl _ _ _) rfl (Sn (WP_ret ?_)))) (.refl _))) (.refl _)
  with_reducible repeat first | apply Exit.sr | apply Exit.br | apply Exit.jr
  refine C_ret (fn := Tryz.f25) rfl (.tmp (v := .sl 1 (List.map c_u8 x5) 0) rfl .nil) ?_
  exact ⟨_, _, (.refl _), ok.wh, _, F_some hF, rfl, rfl⟩
theorem F_scan_Plain_ok {β : Type} {f : LB → Option β} {G : β → Prop} {R : D → Heap → Prop} {p0 : LB} (h : Heap) (hF : OptP ((F_scan_Plain p0).bind f) G) (hk : ∀ r, F_scan_Plain p0 = some r → OptP (f r) G → R (.sl 1 (List.map c_u8 r) 0) h) : CallsA Tryz.prog 25 [.sl 1 (List.map c_u8 p0) 0] h R := by
  obtain ⟨r0, hr, hF⟩ := F_bind hF
  refine (F_scan_Plain_w (G := fun r => r = r0) p0 h ⟨r0, hr, rfl⟩).mono ?_
  rintro _ _ ⟨r, rfl, rfl, rfl⟩
  exact hk _ hr hF
theorem F_char_in_w (p0 : Int) (p1 : List T_char_span) {G : Bool → Prop} (h : Heap) (hF : OptP (F_char_in p0 p1) G) : CallsA Tryz.prog 150 [.int .i32 p0, .sl 2 (List.map c_T_char_span p1) 0] h fun d h' => ∃ r, G r ∧ d = .bool r ∧ h' = h := by
  refine CallsA.ret (C_body Tryz.func150 rfl en_150 Tryz.ntmps150 rfl (fun ok => ?_))
  rw [F_char_in] at hF
  refine CR (Ab rfl (Sn ?_))
  refine C_join hF (fun (_ : Unit) s' => OK h [] ∧ WS s' ⟨mkSl 22 [], Hp h []⟩) (fun J6 hF => ?_) ?_
  · refine CR (Ml rfl (S_lenL rfl ty_sl_200 (Mi rfl (Sn (WP_block ?_)))))
    refine C_loop (σ := Int) hF (fun (a7 : Int) s' => OK h [] ∧ WS s' ⟨mkSl 22 [(0, .int .i32 p0), (7, .sl 2 (List.map c_T_char_span p1) 0), (8, .I (p1.length : Int)), (9, .I a7)], Hp h []⟩) ?_ ?_
    · exact ⟨ok, WS.mk' (.k (.k (.k (.k .nil)))) ok (.refl _)⟩
    · rintro G8 hG9 rec10 a7 s' ih11 hF ⟨ok, hws⟩
      refine WP_ws hws ?_
      clear hws s'
      rw [F_char_in_l0] at hF
      refine CR (S_bin rfl rfl (ev_lss ..) (Sn (C_seq ?_)))
      refine C_if (b := (decide (a7 < (p1.length : Int)))) rfl hF (fun hb12 hF => ?_) (fun hb12 hF => ?_)
      · refine WP_skip (C_seq (WP_block (C_seq (C_reg (mdl [(6, 1)]) (S_ix rfl rfl ty_sl_200 ty_sz_199 hF (fun x13 _ hF => S_ldQ rfl (p_agg (vs := c_T_char_span x13) ty_ag_199 ty_sz_199 rfl rfl) (S_all1 ok rfl ty_zc_199 ?_)))))))
        intro i14 hi14 ok
        refine S_st (j := 0) (cs' := [.int .i32 x13.lo, .int .i32 x13.hi]) ok rfl rfl rfl hi14 rfl ty_sz_199 rfl rfl (fun ok => Sn (CR (Mi rfl (S_faP rfl ty_fd_199_1 ty_sz_21 (S_ldP (j := 0) ok rfl rfl rfl hi14 (p_one (v := .int .i32 x13.hi) ty_ag_21 ty_sz_21 rfl) (S_bin rfl rfl (ev_leq ..) (Sn ?_)))))))
        refine C_if (b := (decide (p0 ≤ x13.hi))) rfl hF (fun hb15 hF => ?_) (fun hb15 hF => ?_)
        · refine CR (Mi rfl (S_faP rfl ty_fd_199_0 ty_sz_21 (S_ldP (j := 0) ok rfl rfl rfl hi14 (p_one (v := .int .i32 x13.lo) ty_ag_21 ty_sz_21 rfl) (S_bin rfl rfl (ev_geq ..) (Ab rfl (Sn (WP_ret ?_)))))))
          replace hF := hG9 _ (F_some hF)
          with_reducible repeat first | apply Exit.sr | apply Exit.br | apply Exit.jr
          refine C_ret (fn := Tryz.f150) rfl (.tmp (v := .bool (decide (x13.lo ≤ p0))) rfl .nil) ?_
          exact ⟨_, _, (.refl _), ok.wh, _, F_some hF, rfl, rfl⟩
        · refine WP_skip (C_reg (mdl []) (S_bin rfl rfl (ev_add ..) (Mi rfl (Sn (ih11 (IntKind.wrap .i64 (a7 + (1 : Int))) _ hF ?_)))))
          have hwo : WO [(i14, .cells [.int .i32 x13.lo, .int .i32 x13.hi])] [] := (.drop .nil)
          exact ⟨(hwo.spec ok).1, WS.mk' (.k (.k (.k (.k .nil)))) ok hwo⟩
      · refine WP_exit ?_
        simp only [Exit.sel, Exit.blk, Exit.jmp, if_true, if_false, reduceIte, Nat.reduceEqDiff, Nat.succ_ne_zero, Nat.zero_ne_one, Nat.one_ne_zero]
        replace hF := hG9 _ (F_some hF)
        exact ⟨(), hF, ok, WS.mk' .nil ok (.refl _)⟩
  · rintro ⟨⟩ s' hF ⟨ok, hws⟩
    refine WP_ws hws ?_
    clear hws s'
    refine CR (Ab rfl (Sn (WP_ret ?_)))
    with_reducible repeat first | apply Exit.sr | apply Exit.br | apply Exit.jr
    refine C_ret (fn := Tryz.f150) rfl (.tmp (v := .bool false) rfl .nil) ?_
    exact ⟨_, _, (.refl _), ok.wh, _, F_some hF, rfl, rfl⟩
theorem F_char_in_ok {β : Type} {f : Bool → Option β} {G : β → Prop} {R : D → Heap → Prop} {p0 : Int} {p1 : List T_char_span} (h : Heap) (hF : OptP ((F_char_in p0 p1).bind f) G) (hk : ∀ r, F_char_in p0 p1 = some r → OptP (f r) G → R (.bool r) h) : CallsA Tryz.prog 150 [.int .i32 p0, .sl 2 (List.map c_T_char_span p1) 0] h R := by
  obtain ⟨r0, hr, hF⟩ := F_bind hF
  refine (F_char_in_w (G := fun r => r = r0) p0 p1 h ⟨r0, hr, rfl⟩).mono ?_
  rintro _ _ ⟨r, rfl, rfl, rfl⟩
  exact hk _ hr hF
theorem F_char_IsChar_w (p0 : Int) {G : Bool → Prop} (h : Heap) (hF : OptP (F_char_IsChar p0) G) : CallsA Tryz.prog 116 [.int .i32 p0] h fun d h' => ∃ r, G r ∧ d = .bool r ∧ h' = h := by
  refine CallsA.ret (C_body Tryz.func116 rfl en_116 Tryz.ntmps116 rfl (fun ok => ?_))
  rw [F_char_IsChar] at hF
  refine CR (Ab rfl (Sn (CR (Mi rfl (S_bin rfl rfl (ev_eql ..) (Mb rfl ?_))))))
  refine S_two (b := (p0 == (9 : Int))) 3 8 (.bool ((p0 == (9 : Int)) || (p0 == (10 : Int)))) (fun hb1 => ?_) (fun hb1 => ?_) ?_
  · refine So rfl rfl hb1 (So rfl rfl hb1 (S_pickT (v := .bool _) rfl hb1 rfl (Sn (.hd (or_t hb1) ?_))))
    repeat first | with_reducible exact .refl _ | refine .add ?_ rfl | exact .refl _
  · refine Sx rfl rfl hb1 (Mi rfl (Sn (Sx rfl rfl hb1 (S_bin rfl rfl (ev_eql ..) (Sn (S_pickF (v := .bool _) rfl hb1 rfl (Sn (.hd (or_f hb1) ?_))))))))
    repeat first | with_reducible exact .refl _ | refine .add ?_ rfl | exact .refl _
  refine Mb rfl ?_
  refine S_two (b := ((p0 == (9 : Int)) || (p0 == (10 : Int)))) 3 12 (.bool (((p0 == (9 : Int)) || (p0 == (10 : Int))) || (p0 == (13 : Int)))) (fun hb2 => ?_) (fun hb2 => ?_) ?_
  · refine So rfl rfl hb2 (So rfl rfl hb2 (S_pickT (v := .bool _) rfl hb2 rfl (Sn (.hd (or_t hb2) ?_))))
    repeat first | with_reducible exact .refl _ | refine .add ?_ rfl | exact .refl _
  · refine Sx rfl rfl hb2 (Mi rfl (Sn (Sx rfl rfl hb2 (S_bin rfl rfl (ev_eql ..) (Sn (S_pickF (v := .bool _) rfl hb2 rfl (Sn (.hd (or_f hb2) ?_))))))))
    repeat first | with_reducible exact .refl _ | refine .add ?_ rfl | exact .refl _
  refine Mb rfl ?_
  refine S_twoJ 7 20 hF (fun J4 hb3 hF => ?_) (fun J4 hb3 hF => ?_) (fun v5 hF => ?_)
  · refine So rfl rfl hb3 (So rfl rfl hb3 (So rfl rfl hb3 (So rfl rfl hb3 (So rfl rfl hb3 (So rfl rfl hb3 (S_pickT (v := .bool _) rfl hb3 rfl (Sn ?_)))))))
    refine ⟨_, hF, .hd (.refl _) ?_⟩
    repeat first | with_reducible exact .refl _ | refine .add ?_ rfl | exact .refl _
  · refine Sx rfl rfl hb3 (Mi rfl (Sn (Sx rfl rfl hb3 (S_bld (v := .agg (c_T_char_span (⟨(32 : Int), (55295 : Int)⟩ : T_char_span))) (b_st ty_zc_199 ty_pl_199 rfl) (Sn (Sx rfl rfl hb3 (S_bld (v := .agg (c_T_char_span (⟨(57344 : Int), (65533 : Int)⟩ : T_char_span))) (b_st ty_zc_199 ty_pl_199 rfl) (Sn (Sx rfl rfl hb3 (S_bld (v := .agg (c_T_char_span (⟨(65536 : Int), (1114111 : Int)⟩ : T_char_span))) (b_st ty_zc_199 ty_pl_199 rfl) (Sn (Sx rfl rfl hb3 ?_))))))))))))
    refine S_lit0 (cs := [.int .i32 (⟨(32 : Int), (55295 : Int)⟩ : T_char_span).lo, .int .i32 (⟨(32 : Int), (55295 : Int)⟩ : T_char_span).hi, .int .i32 (⟨(57344 : Int), (65533 : Int)⟩ : T_char_span).lo, .int .i32 (⟨(57344 : Int), (65533 : Int)⟩ : T_char_span).hi, .int .i32 (⟨(65536 : Int), (1114111 : Int)⟩ : T_char_span).lo, .int .i32 (⟨(65536 : Int), (1114111 : Int)⟩ : T_char_span).hi]) (es := (List.map c_T_char_span [(⟨(32 : Int), (55295 : Int)⟩ : T_char_span), (⟨(57344 : Int), (65533 : Int)⟩ : T_char_span), (⟨(65536 : Int), (1114111 : Int)⟩ : T_char_span)])) rfl ty_el_200 rfl (by kernel_rfl) (by kernel_rfl) ?_
    refine Sn (Sx rfl rfl hb3 (S_call (F_char_in_ok _ hF fun x6 _ hF => (Sn (S_pickF (v := .bool _) rfl hb3 rfl (Sn ?_)))) (.refl _)))
    refine ⟨_, hF, .hd (.refl _) ?_⟩
    repeat first | with_reducible exact .refl _ | refine .add ?_ rfl | exact .refl _
  · refine Ab rfl (Sn (WP_ret ?_))
    with_reducible repeat first | apply Exit.sr | apply Exit.br | apply Exit.jr
    refine C_ret (fn := Tryz.f116) rfl (.tmp (v := .bool v5) rfl .nil) ?_
    exact ⟨_, _, (.refl _), ok.wh, _, F_some hF, rfl, rfl⟩
theorem F_char_IsChar_ok {β : Type} {f : Bool → Option β} {G : β → Prop} {R : D → Heap → Prop} {p0 : Int} (h : Heap) (hF : OptP ((F_char_IsChar p0).bind f) G) (hk : ∀ r, F_char_IsChar p0 = some r → OptP (f r) G → R (.bool r) h) : CallsA Tryz.prog 116 [.int .i32 p0] h R := by
  obtain ⟨r0, hr, hF⟩ := F_bind hF
  refine (F_char_IsChar_w (G := fun r => r = r0) p0 h ⟨r0, hr, rfl⟩).mono ?_
  rintro _ _ ⟨r, rfl, rfl, rfl⟩
  exact hk _ hr hF
theorem F_char_Next_w (p0 : LB) (p1 : Int) {G : Int × Int × Int → Prop} (h : Heap) (hF : OptP (F_char_Next p0 p1) G) : CallsA Tryz.prog 76 [.sl 1 (List.map c_u8 p0) 0, .I p1] h fun d h' => ∃ r, G r ∧ d = .tup [.int .i32 r.1, .I r.2.1, .I r.2.2] ∧ h' = h := by
  refine CallsA.ret (C_body Tryz.func76 rfl en_76 Tryz.ntmps76 rfl (fun ok => ?_))
  rw [F_char_Next] at hF
  refine CR (Ai rfl (Ai rfl (Ai rfl (Sn (C_seq (CR (Mi rfl (S_bin rfl rfl (ev_lss ..) (Mb rfl ?_)))))))))
  refine S_two (b := (decide (p1 < (0 : Int)))) 5 16 (.bool ((decide (p1 < (0 : Int))) || (decide ((p0.length : Int) ≤ p1)))) (fun hb1 => ?_) (fun hb1 => ?_) ?_
  · refine So rfl rfl hb1 (So rfl rfl hb1 (So rfl rfl hb1 (So rfl rfl hb1 (S_pickT (v := .bool _) rfl hb1 rfl (Sn (.hd (or_t hb1) ?_))))))
    repeat first | with_reducible exact .refl _ | refine .add ?_ rfl | exact .refl _
  · refine Sx rfl rfl hb1 (Mi rfl (Sn (Sx rfl rfl hb1 (Ml rfl (Sn (Sx rfl rfl hb1 (S_lenL rfl ty_sl_22 (Sn (Sx rfl rfl hb1 (S_bin rfl rfl (ev_geq ..) (Sn (S_pickF (v := .bool _) rfl hb1 rfl (Sn (.hd (or_f hb1) ?_))))))))))))))
    repeat first | with_reducible exact .refl _ | refine .add ?_ rfl | exact .refl _
  refine Sn ?_
  refine C_if (b := ((decide (p1 < (0 : Int))) || (decide ((p0.length : Int) ≤ p1)))) rfl hF (fun hb2 hF => ?_) (fun hb2 hF => ?_)
  · refine CR (Ai rfl (Ai rfl (Ai rfl (Sn (WP_ret ?_)))))
    with_reducible repeat first | apply Exit.sr | apply Exit.br | apply Exit.jr
    refine C_ret (fn := Tryz.f76) rfl (.tmp (v := .int .i32 (0 : Int)) rfl (.tmp (v := .I 0) rfl (.tmp (v := .I 1) rfl .nil))) ?_
    exact ⟨_, _, (.refl _), ok.wh, _, F_some hF, rfl, rfl⟩
  · refine WP_skip (CR (Ml rfl (Mi rfl (S_slL rfl ty_sl_22 ty_sz_5 (bd_at rfl) bd_len hF (fun x3 _ hF => S_call (L_DecodeRune_ok _ hF fun x4 _ hF => (S_m (v := .tup _) rfl (S_ext rfl rfl (S_ext rfl rfl (Ai rfl (Ai rfl (Sn (C_seq (WP_block (CR (Mi rfl (S_bin rfl rfl (ev_eql ..) (Mb rfl ?_))))))))))))) (.refl _))))))
    refine S_two (b := (x4.1 == (65533 : Int))) 3 30 (.bool ((x4.1 == (65533 : Int)) && (decide (x4.2 < (3 : Int))))) (fun hb5 => ?_) (fun hb5 => ?_) ?_
    · refine Sx rfl rfl hb5 (Mi rfl (Sn (Sx rfl rfl hb5 (S_bin rfl rfl (ev_lss ..) (Sn (S_pickT (v := .bool _) rfl hb5 rfl (Sn (.hd (and_t hb5) ?_))))))))
      repeat first | with_reducible exact .refl _ | refine .add ?_ rfl | exact .refl _
    · refine So rfl rfl hb5 (So rfl rfl hb5 (S_pickF (v := .bool _) rfl hb5 rfl (Sn (.hd (and_f hb5) ?_))))
      repeat first | with_reducible exact .refl _ | refine .add ?_ rfl | exact .refl _
    refine Ab rfl (Sn ?_)
    refine C_if (b := ((x4.1 == (65533 : Int)) && (decide (x4.2 < (3 : Int))))) rfl hF (fun hb6 hF => ?_) (fun hb6 hF => ?_)
    · refine CR (Ai rfl (Ai rfl (Ai rfl (Sn (WP_ret ?_)))))
      with_reducible repeat first | apply Exit.sr | apply Exit.br | apply Exit.jr
      refine C_ret (fn := Tryz.f76) rfl (.tmp (v := .int .i32 (0 : Int)) rfl (.tmp (v := .I 0) rfl (.tmp (v := .I 20) rfl .nil))) ?_
      exact ⟨_, _, (.refl _), ok.wh, _, F_some hF, rfl, rfl⟩
    · refine CR (Mi rfl (S_call (F_char_IsChar_ok _ hF fun x7 _ hF => (S_un rfl (ev_not _) (Ab rfl (Sn ?_)))) (.refl _)))
      refine C_if (b := (!x7)) rfl hF (fun hb8 hF => ?_) (fun hb8 hF => ?_)
      · refine CR (Ai rfl (Ai rfl (Ai rfl (Sn (WP_ret ?_)))))
        with_reducible repeat first | apply Exit.sr | apply Exit.br | apply Exit.jr
        refine C_ret (fn := Tryz.f76) rfl (.tmp (v := .int .i32 (0 : Int)) rfl (.tmp (v := .I 0) rfl (.tmp (v := .I 21) rfl .nil))) ?_
        exact ⟨_, _, (.refl _), ok.wh, _, F_some hF, rfl, rfl⟩
      · refine WP_skip (CR (Mi rfl (Mi rfl (Mi rfl (S_bin rfl rfl (ev_add ..) (Ai rfl (Ai rfl (Ai rfl (Sn (WP_ret ?_))))))))))
        with_reducible repeat first | apply Exit.sr | apply Exit.br | apply Exit.jr
        refine C_ret (fn := Tryz.f76) rfl (.tmp (v := .int .i32 x4.1) rfl (.tmp (v := .I (IntKind.wrap .i64 (p1 + x4.2))) rfl (.tmp (v := .I 0) rfl .nil))) ?_
        exact ⟨_, _, (.refl _), ok.wh, _, F_some hF, rfl, rfl⟩
theorem F_char_Next_ok {β : Type} {f : Int × Int × Int → Option β} {G : β → Prop} {R : D → Heap → Prop} {p0 : LB} {p1 : Int} (h : Heap) (hF : OptP ((F_char_Next p0 p1).bind f) G) (hk : ∀ r, F_char_Next p0 p1 = some r → OptP (f r) G → R (.tup [.int .i32 r.1, .I r.2.1, .I r.2.2]) h) : CallsA Tryz.prog 76 [.sl 1 (List.map c_u8 p0) 0, .I p1] h R := by
  obtain ⟨r0, hr, hF⟩ := F_bind hF
  refine (F_char_Next_w (G := fun r => r = r0) p0 p1 h ⟨r0, hr, rfl⟩).mono ?_
  rintro _ _ ⟨r, rfl, rfl, rfl⟩
  exact hk _ hr hF
theorem F_char_Fault_w (p0 : LB) {G : Int × Int → Prop} (h : Heap) (hF : OptP (F_char_Fault p0) G) : CallsA Tryz.prog 47 [.sl 1 (List.map c_u8 p0) 0] h fun d h' => ∃ r, G r ∧ d = .tup [.I r.1, .I r.2] ∧ h' = h := by
  refine CallsA.ret (C_body Tryz.func47 rfl en_47 Tryz.ntmps47 rfl (fun ok => ?_))
  rw [F_char_Fault] at hF
  refine CR (Ai rfl (Ai rfl (Sn ?_)))
  refine C_join hF (fun (_ : Unit) s' => OK h [] ∧ WS s' ⟨mkSl 24 [], Hp h []⟩) (fun J5 hF => ?_) ?_
  · refine CR (Ai rfl (Sn (WP_block ?_)))
    refine C_loop (σ := Int) hF (fun (a6 : Int) s' => OK h [] ∧ WS s' ⟨mkSl 24 [(0, .sl 1 (List.map c_u8 p0) 0), (4, .I a6)], Hp h []⟩) ?_ ?_
    · exact ⟨ok, WS.mk' (.k (.k .nil)) ok (.refl _)⟩
    · rintro G7 hG8 rec9 a6 s' ih10 hF ⟨ok, hws⟩
      refine WP_ws hws ?_
      clear hws s'
      rw [F_char_Fault_l0] at hF
      refine C_seq (CR (Mi rfl (Ml rfl (S_lenL rfl ty_sl_22 (S_bin rfl rfl (ev_lss ..) (Sn ?_))))))
      refine C_if (b := (decide (a6 < (p0.length : Int)))) rfl hF (fun hb11 hF => ?_) (fun hb11 hF => ?_)
      · refine WP_skip (WP_block (CR (Ml rfl (Mi rfl (S_call (F_char_Next_ok _ hF fun x12 _ hF => (S_m (v := .tup _) rfl (S_ext rfl rfl (S_ext rfl rfl (S_ext rfl rfl (Ai rfl (Ai rfl (Ai rfl (Sn (C_seq (CR (Mi rfl (S_bin rfl rfl (ev_neq ..) (Sn ?_)))))))))))))) (.refl _))))))
        refine C_if (b := (x12.2.2 != (0 : Int))) rfl hF (fun hb13 hF => ?_) (fun hb13 hF => ?_)
        · refine CR (Mi rfl (Mi rfl (Ai rfl (Ai rfl (Sn (WP_ret ?_))))))
          replace hF := hG8 _ (F_some hF)
          with_reducible repeat first | apply Exit.sr | apply Exit.br | apply Exit.jr
          refine C_ret (fn := Tryz.f47) rfl (.tmp (v := .I a6) rfl (.tmp (v := .I x12.2.2) rfl .nil)) ?_
          exact ⟨_, _, (.refl _), ok.wh, _, F_some hF, rfl, rfl⟩
        · refine WP_skip (C_reg (mdl []) (Mi rfl (Ai rfl (Sn (ih10 x12.2.1 _ hF ?_)))))
          exact ⟨ok, WS.mk' (.k (.k .nil)) ok (.refl _)⟩
      · refine WP_exit ?_
        simp only [Exit.sel, Exit.blk, Exit.jmp, if_true, if_false, reduceIte, Nat.reduceEqDiff, Nat.succ_ne_zero, Nat.zero_ne_one, Nat.one_ne_zero]
        replace hF := hG8 _ (F_some hF)
        exact ⟨(), hF, ok, WS.mk' .nil ok (.refl _)⟩
  · rintro ⟨⟩ s' hF ⟨ok, hws⟩
    refine WP_ws hws ?_
    clear hws s'
    refine CR (Ai rfl (Ai rfl (Sn (WP_ret ?_))))
    with_reducible repeat first | apply Exit.sr | apply Exit.br | apply Exit.jr
    refine C_ret (fn := Tryz.f47) rfl (.tmp (v := .I 0) rfl (.tmp (v := .I 0) rfl .nil)) ?_
    exact ⟨_, _, (.refl _), ok.wh, _, F_some hF, rfl, rfl⟩
theorem F_char_Fault_ok {β : Type} {f : Int × Int → Option β} {G : β → Prop} {R : D → Heap → Prop} {p0 : LB} (h : Heap) (hF : OptP ((F_char_Fault p0).bind f) G) (hk : ∀ r, F_char_Fault p0 = some r → OptP (f r) G → R (.tup [.I r.1, .I r.2]) h) : CallsA Tryz.prog 47 [.sl 1 (List.map c_u8 p0) 0] h R := by
  obtain ⟨r0, hr, hF⟩ := F_bind hF
  refine (F_char_Fault_w (G := fun r => r = r0) p0 h ⟨r0, hr, rfl⟩).mono ?_
  rintro _ _ ⟨r, rfl, rfl, rfl⟩
  exact hk _ hr hF
theorem F_scan_scanner_here_w (p0 : TS) (p1 : LB) (q0 : Nat) {G : Bool → Prop} (h : Heap) (O : List (Nat × AObj)) (hq0 : q0 ≠ 0) (ok : OK h ((cSc q0 p0) :: O)) (hF : OptP (F_scan_scanner_here p0 p1) G) : CallsA Tryz.prog 77 [.ptr q0 0, .str p1] (Hp h ((cSc q0 p0) :: O)) fun d h' => ∃ r, G r ∧ d = .bool r ∧ OK h ((cSc q0 p0) :: O) ∧ h' = Hp h ((cSc q0 p0) :: O) := by
  refine CallsA.ret (C_bodyO Tryz.func77 rfl en_77 Tryz.ntmps77 rfl ?_)
  rw [F_scan_scanner_here] at hF
  refine CR (Ab rfl (Sn (C_seq ?_)))
  refine C_drw (mdl []) (by kernel_rfl) (by kernel_rfl) ?_
  refine Mp rfl (S_nilc (v := .ptr _ _) rfl rfl (S_faP rfl ty_fd_95_0 ty_sz_22 (S_ldP (j := 0) ok rfl rfl rfl hq0 (p_one (v := .sl 1 (List.map c_u8 p0.b) 0) ty_ag_22 ty_sz_22 rfl) (Mp rfl (S_nilc (v := .ptr _ _) rfl rfl (S_faP rfl ty_fd_95_1 ty_sz_3 (S_ldP (j := 0) ok rfl rfl rfl hq0 (p_one (v := .I p0.at_) ty_ag_3 ty_sz_3 rfl) (S_slL rfl ty_sl_22 ty_sz_5 (bd_at rfl) bd_len hF (fun x1 _ hF => Ms rfl (S_byt0 rfl rfl ty_sl_22 ty_st_9 ty_ki_5 (S_call (F_bytes_HasPrefix_ok _ hF fun x2 _ hF => (Ab rfl (Sn (WP_ret ?_)))) (.refl _))))))))))))
  with_reducible repeat first | apply Exit.sr | apply Exit.br | apply Exit.jr
  refine C_ret (fn := Tryz.f77) rfl (.tmp (v := .bool x2) rfl .nil) ?_
  exact ⟨_, _, (.refl _), .refl _, _, F_some hF, rfl, ok, rfl⟩
theorem F_scan_scanner_here_ok {β : Type} {f0 : Bool → Option β} {G : β → Prop} {R : D → Heap → Prop} {p0 : TS} {p1 : LB} {q0 : Nat} (h : Heap) (O : List (Nat × AObj)) (hq0 : q0 ≠ 0) (ok : OK h ((cSc q0 p0) :: O)) (hF : OptP ((F_scan_scanner_here p0 p1).bind f0) G) (hk : ∀ r, F_scan_scanner_here p0 p1 = some r → OK h ((cSc q0 p0) :: O) → OptP (f0 r) G → R (.bool r) (Hp h ((cSc q0 p0) :: O))) : CallsA Tryz.prog 77 [.ptr q0 0, .str p1] (Hp h ((cSc q0 p0) :: O)) R := by
  obtain ⟨r0, hr, hF⟩ := F_bind hF
  refine (F_scan_scanner_here_w (G := fun r => r = r0) p0 p1 q0 h O hq0 ok ⟨r0, hr, rfl⟩).mono ?_
  rintro _ _ ⟨r, rfl, rfl, ok', rfl⟩
  exact hk _ hr ok' hF
theorem F_scan_scanner_spaces_w (p0 : TS) (p1 : Int) (q0 : Nat) {G : Int → Prop} (h : Heap) (O : List (Nat × AObj)) (hq0 : q0 ≠ 0) (ok : OK h ((cSc q0 p0) :: O)) (hF : OptP (F_scan_scanner_spaces p0 p1) G) : CallsA Tryz.prog 78 [.ptr q0 0, .I p1] (Hp h ((cSc q0 p0) :: O)) fun d h' => ∃ r, G r ∧ d = .I r ∧ OK h ((cSc q0 p0) :: O) ∧ h' = Hp h ((cSc q0 p0) :: O) := by
  refine CallsA.ret (C_bodyO Tryz.func78 rfl en_78 Tryz.ntmps78 rfl ?_)
  rw [F_scan_scanner_spaces] at hF
  refine CR (Ai rfl (Sn ?_))
  refine C_join hF (fun (a8 : Int) s' => OK h ((cSc q0 p0) :: O) ∧ WS s' ⟨mkSl 26 [(1, .I a8)], Hp h ((cSc q0 p0) :: O)⟩) (fun J9 hF => ?_) ?_
  · refine WP_block ?_
    refine C_loop (σ := Int) hF (fun (a10 : Int) s' => OK h ((cSc q0 p0) :: O) ∧ WS s' ⟨mkSl 26 [(0, .ptr q0 0), (1, .I a10)], Hp h ((cSc q0 p0) :: O)⟩) ?_ ?_
    · exact ⟨ok, WS.mk' (.k (.k .nil)) ok (.refl _)⟩
    · rintro G11 hG12 rec13 a10 s' ih14 hF ⟨ok, hws⟩
      refine WP_ws hws ?_
      clear hws s'
      rw [F_scan_scanner_spaces_l0] at hF
      refine C_seq (CR (Mi rfl (Mp rfl (S_nilc (v := .ptr _ _) rfl rfl (S_faP rfl ty_fd_95_0 ty_sz_22 (S_ldP (j := 0) ok rfl rfl rfl hq0 (p_one (v := .sl 1 (List.map c_u8 p0.b) 0) ty_ag_22 ty_sz_22 rfl) (S_lenL rfl ty_sl_22 (S_bin rfl rfl (ev_lss ..) (Mb rfl ?_)))))))))
      refine S_twoJ 10 22 hF (fun J16 hb15 hF => ?_) (fun J16 hb15 hF => ?_) (fun v17 hF => ?_)
      · refine Sx rfl rfl hb15 (Mp rfl (Sn (Sx rfl rfl hb15 (S_nilc (v := .ptr _ _) rfl rfl (Sn (Sx rfl rfl hb15 (S_faP rfl ty_fd_95_0 ty_sz_22 (Sn (Sx rfl rfl hb15 (S_ldP (j := 0) ok rfl rfl rfl hq0 (p_one (v := .sl 1 (List.map c_u8 p0.b) 0) ty_ag_22 ty_sz_22 rfl) (Sn (Sx rfl rfl hb15 (Mi rfl (Sn (Sx rfl rfl hb15 (S_ix rfl rfl ty_sl_22 ty_sz_5 hF (fun x18 _ hF => Sn (Sx rfl rfl hb15 (S_ldQ rfl (p_one ty_ag_5 ty_sz_5 rfl) (Sn (Sx rfl rfl hb15 (S_call (L_IndexByte_ok _ hF fun x19 _ hF => (Sn (Sx rfl rfl hb15 (S_bin rfl rfl (ev_geq ..) (Sn (S_pickT (v := .bool _) rfl hb15 rfl (Sn ?_))))))) (.refl _)))))))))))))))))))))))
        refine ⟨_, hF, .hd (.refl _) ?_⟩
        repeat first | with_reducible exact .refl _ | refine .add ?_ rfl | exact .refl _
      · refine So rfl rfl hb15 (So rfl rfl hb15 (So rfl rfl hb15 (So rfl rfl hb15 (So rfl rfl hb15 (So rfl rfl hb15 (So rfl rfl hb15 (So rfl rfl hb15 (So rfl rfl hb15 (S_pickF (v := .bool _) rfl hb15 rfl (Sn ?_))))))))))
        refine ⟨_, hF, .hd (.refl _) ?_⟩
        repeat first | with_reducible exact .refl _ | refine .add ?_ rfl | exact .refl _
      · refine Sn ?_
        refine C_if (b := v17) rfl hF (fun hb20 hF => ?_) (fun hb20 hF => ?_)
        · refine WP_skip (WP_block (C_reg (mdl []) (Mi rfl (S_bin rfl rfl (ev_add ..) (Ai rfl (Sn (ih14 (IntKind.wrap .i64 (a10 + (1 : Int))) _ hF ?_)))))))
          exact ⟨ok, WS.mk' (.k (.k .nil)) ok (.refl _)⟩
        · refine WP_exit ?_
          simp only [Exit.sel, Exit.blk, Exit.jmp, if_true, if_false, reduceIte, Nat.reduceEqDiff, Nat.succ_ne_zero, Nat.zero_ne_one, Nat.one_ne_zero]
          replace hF := hG12 _ (F_some hF)
          exact ⟨a10, hF, ok, WS.mk' (.k .nil) ok (.refl _)⟩
  · rintro a8 s' hF ⟨ok, hws⟩
    refine WP_ws hws ?_
    clear hws s'
    refine CR (Mi rfl (Ai rfl (Sn (WP_ret ?_))))
    with_reducible repeat first | apply Exit.sr | apply Exit.br | apply Exit.jr
    refine C_ret (fn := Tryz.f78) rfl (.tmp (v := .I a8) rfl .nil) ?_
    exact ⟨_, _, (.refl _), .refl _, _, F_some hF, rfl, ok, rfl⟩
theorem F_scan_scanner_spaces_ok {β : Type} {f0 : Int → Option β} {G : β → Prop} {R : D → Heap → Prop} {p0 : TS} {p1 : Int} {q0 : Nat} (h : Heap) (O : List (Nat × AObj)) (hq0 : q0 ≠ 0) (ok : OK h ((cSc q0 p0) :: O)) (hF : OptP ((F_scan_scanner_spaces p0 p1).bind f0) G) (hk : ∀ r, F_scan_scanner_spaces p0 p1 = some r → OK h ((cSc q0 p0) :: O) → OptP (f0 r) G → R (.I r) (Hp h ((cSc q0 p0) :: O))) : CallsA Tryz.prog 78 [.ptr q0 0, .I p1] (Hp h ((cSc q0 p0) :: O)) R := by
  obtain ⟨r0, hr, hF⟩ := F_bind hF
  refine (F_scan_scanner_spaces_w (G := fun r => r = r0) p0 p1 q0 h O hq0 ok ⟨r0, hr, rfl⟩).mono ?_
  rintro _ _ ⟨r, rfl, rfl, ok', rfl⟩
  exact hk _ hr ok' hF
theorem F_scan_scanner_sign_w (p0 : TS) (p1 : LB) (q0 : Nat) {G : Int × TS → Prop} (h : Heap) (O : List (Nat × AObj)) (hq0 : q0 ≠ 0) (ok : OK h ((cSc q0 p0) :: O)) (hF : OptP (F_scan_scanner_sign p0 p1) G) : CallsA Tryz.prog 81 [.ptr q0 0, .str p1] (Hp h ((cSc q0 p0) :: O)) fun d h' => ∃ r, G r ∧ d = .I r.1 ∧ OK h ((cSc q0 r.2) :: O) ∧ h' = Hp h ((cSc q0 r.2) :: O) := by
  refine CallsA.ret (C_bodyO Tryz.func81 rfl en_81 Tryz.ntmps81 rfl ?_)
  rw [F_scan_scanner_sign] at hF
  refine CR (Ai rfl (Sn (C_seq (CR (Mp rfl (Ms rfl (S_call (F_scan_scanner_here_ok (p0 := p0) (q0 := q0) h _ hq0 ok hF fun x1 _  ok hF => (S_un rfl (ev_not _) (Sn ?_))) (.refl _))))))))
  refine C_if (b := (!x1)) rfl hF (fun hb2 hF => ?_) (fun hb2 hF => ?_)
  · refine CR (Ai rfl (Sn (WP_ret ?_)))
    with_reducible repeat first | apply Exit.sr | apply Exit.br | apply Exit.jr
    refine C_ret (fn := Tryz.f81) rfl (.tmp (v := .I 23) rfl .nil) ?_
    exact ⟨_, _, (.refl _), .refl _, _, F_some hF, rfl, ok, rfl⟩
  · refine WP_skip (CR (Mp rfl (S_nilc (v := .ptr _ _) rfl rfl (S_faP rfl ty_fd_95_1 ty_sz_3 (S_ldP (j := 0) ok rfl rfl rfl hq0 (p_one (v := .I p0.at_) ty_ag_3 ty_sz_3 rfl) (Ms rfl (S_lenS rfl ty_st_9 (S_bin rfl rfl (ev_add ..) (S_nilc (v := .ptr _ _) rfl rfl (S_faP rfl ty_fd_95_1 ty_sz_3 (S_st (j := 0) (cs' := [.sl 1 (List.map c_u8 p0.b) 0, .I (IntKind.wrap .i64 (p0.at_ + (p1.length : Int)))]) ok rfl rfl rfl hq0 rfl ty_sz_3 rfl rfl (fun ok => Sn (CR (Ai rfl (Sn (WP_ret ?_))))))))))))))))
    with_reducible repeat first | apply Exit.sr | apply Exit.br | apply Exit.jr
    refine C_ret (fn := Tryz.f81) rfl (.tmp (v := .I 0) rfl .nil) ?_
    exact ⟨_, _, (.refl _), .refl _, _, F_some hF, rfl, ok, rfl⟩
theorem F_scan_scanner_sign_ok {β : Type} {f0 : Int × TS → Option β} {G : β → Prop} {R : D → Heap → Prop} {p0 : TS} {p1 : LB} {q0 : Nat} (h : Heap) (O : List (Nat × AObj)) (hq0 : q0 ≠ 0) (ok : OK h ((cSc q0 p0) :: O)) (hF : OptP ((F_scan_scanner_sign p0 p1).bind f0) G) (hk : ∀ r, F_scan_scanner_sign p0 p1 = some r → OK h ((cSc q0 r.2) :: O) → OptP (f0 r) G → R (.I r.1) (Hp h ((cSc q0 r.2) :: O))) : CallsA Tryz.prog 81 [.ptr q0 0, .str p1] (Hp h ((cSc q0 p0) :: O)) R := by
  obtain ⟨r0, hr, hF⟩ := F_bind hF
  refine (F_scan_scanner_sign_w (G := fun r => r = r0) p0 p1 q0 h O hq0 ok ⟨r0, hr, rfl⟩).mono ?_
  rintro _ _ ⟨r, rfl, rfl, ok', rfl⟩
  exact hk _ hr ok' hF
theorem F_scan_scanner_equals_w (p0 : TS) (q0 : Nat) {G : Int × TS → Prop} (h : Heap) (O : List (Nat × AObj)) (hq0 : q0 ≠ 0) (ok : OK h ((cSc q0 p0) :: O)) (hF : OptP (F_scan_scanner_equals p0) G) : CallsA Tryz.prog 118 [.ptr q0 0] (Hp h ((cSc q0 p0) :: O)) fun d h' => ∃ r, G r ∧ d = .I r.1 ∧ OK h ((cSc q0 r.2) :: O) ∧ h' = Hp h ((cSc q0 r.2) :: O) := by
  refine CallsA.ret (C_bodyO Tryz.func118 rfl en_118 Tryz.ntmps118 rfl ?_)
  rw [F_scan_scanner_equals] at hF
  refine CR (Ai rfl (Sn (CR (Mp rfl (Mp rfl (Mp rfl (S_nilc (v := .ptr _ _) rfl rfl (S_faP rfl ty_fd_95_1 ty_sz_3 (S_ldP (j := 0) ok rfl rfl rfl hq0 (p_one (v := .I p0.at_) ty_ag_3 ty_sz_3 rfl) (S_call (F_scan_scanner_spaces_ok (p0 := p0) (q0 := q0) h _ hq0 ok hF fun x1 _  ok hF => (S_nilc (v := .ptr _ _) rfl rfl (S_faP rfl ty_fd_95_1 ty_sz_3 (S_st (j := 0) (cs' := [.sl 1 (List.map c_u8 p0.b) 0, .I x1]) ok rfl rfl rfl hq0 rfl ty_sz_3 rfl rfl (fun ok => Sn (CR (Mp rfl (S_call (F_scan_scanner_sign_ok (p0 := (⟨p0.b, x1⟩ : TS)) (q0 := q0) h _ hq0 ok hF fun x2 _  ok hF => (Ai rfl (Sn (CR (Mp rfl (Mp rfl (Mp rfl (S_nilc (v := .ptr _ _) rfl rfl (S_faP rfl ty_fd_95_1 ty_sz_3 (S_ldP (j := 0) ok rfl rfl rfl hq0 (p_one (v := .I x2.2.at_) ty_ag_3 ty_sz_3 rfl) (S_call (F_scan_scanner_spaces_ok (p0 := x2.2) (q0 := q0) h _ hq0 ok hF fun x3 _  ok hF => (S_nilc (v := .ptr _ _) rfl rfl (S_faP rfl ty_fd_95_1 ty_sz_3 (S_st (j := 0) (cs' := [.sl 1 (List.map c_u8 x2.2.b) 0, .I x3]) ok rfl rfl rfl hq0 rfl ty_sz_3 rfl rfl (fun ok => Sn (CR (Mi rfl (Ai rfl ?_)))))))) (.refl _)))))))))))) (.refl _))))))))) (.refl _)))))))))))
  refine Sn (WP_ret ?_)
  with_reducible repeat first | apply Exit.sr | apply Exit.br | apply Exit.jr
  refine C_ret (fn := Tryz.f118) rfl (.tmp (v := .I x2.1) rfl .nil) ?_
  exact ⟨_, _, (.refl _), .refl _, _, F_some hF, rfl, ok, rfl⟩
theorem F_scan_scanner_equals_ok {β : Type} {f0 : Int × TS → Option β} {G : β → Prop} {R : D → Heap → Prop} {p0 : TS} {q0 : Nat} (h : Heap) (O : List (Nat × AObj)) (hq0 : q0 ≠ 0) (ok : OK h ((cSc q0 p0) :: O)) (hF : OptP ((F_scan_scanner_equals p0).bind f0) G) (hk : ∀ r, F_scan_scanner_equals p0 = some r → OK h ((cSc q0 r.2) :: O) → OptP (f0 r) G → R (.I r.1) (Hp h ((cSc q0 r.2) :: O))) : CallsA Tryz.prog 118 [.ptr q0 0] (Hp h ((cSc q0 p0) :: O)) R := by
  obtain ⟨r0, hr, hF⟩ := F_bind hF
  refine (F_scan_scanner_equals_w (G := fun r => r = r0) p0 q0 h O hq0 ok ⟨r0, hr, rfl⟩).mono ?_
  rintro _ _ ⟨r, rfl, rfl, ok', rfl⟩
  exact hk _ hr ok' hF
theorem F_scan_scanner_quoted_w (p0 : TS) (q0 : Nat) {G : (LB × Int) × TS → Prop} (h : Heap) (O : List (Nat × AObj)) (hq0 : q0 ≠ 0) (ok : OK h ((cSc q0 p0) :: O)) (hF : OptP (F_scan_scanner_quoted p0) G) : CallsA Tryz.prog 119 [.ptr q0 0] (Hp h ((cSc q0 p0) :: O)) fun d h' => ∃ r, G r ∧ d = .tup [.sl 1 (List.map c_u8 r.1.1) 0, .I r.1.2] ∧ OK h ((cSc q0 r.2) :: O) ∧ h' = Hp h ((cSc q0 r.2) :: O) := by
  refine CallsA.ret (C_bodyO Tryz.func119 rfl en_119 Tryz.ntmps119 rfl ?_)
  rw [F_scan_scanner_quoted] at hF
  refine CR (S_a (v := .snil) rfl (S_one 2 (v := .sl 1 (List.map c_u8 nB) 0) (.nil _) (Ai rfl (Sn (C_seq (CR (Mp rfl (S_call (F_scan_scanner_here_ok (p0 := p0) (q0 := q0) h _ hq0 ok hF fun x1 _  ok hF => (S_un rfl (ev_not _) (Mb rfl ?_))) (.refl _)))))))))
  refine S_twoJ 4 13 hF (fun J3 hb2 hF => ?_) (fun J3 hb2 hF => ?_) (fun v4 hF => ?_)
  · refine Sx rfl rfl hb2 (Mp rfl (Sn (Sx rfl rfl hb2 (S_call (F_scan_scanner_here_ok (p0 := p0) (q0 := q0) h _ hq0 ok hF fun x5 _  ok hF => (Sn (Sx rfl rfl hb2 (S_un rfl (ev_not _) (Sn (S_pickT (v := .bool _) rfl hb2 rfl (Sn ?_))))))) (.refl _)))))
    refine ⟨_, hF, .hd (.refl _) ?_⟩
    repeat first | with_reducible exact .refl _ | refine .add ?_ rfl | exact .refl _
  · refine So rfl rfl hb2 (So rfl rfl hb2 (So rfl rfl hb2 (S_pickF (v := .bool _) rfl hb2 rfl (Sn ?_))))
    refine ⟨_, hF, .hd (.refl _) ?_⟩
    repeat first | with_reducible exact .refl _ | refine .add ?_ rfl | exact .refl _
  · refine Sn ?_
    refine C_if (b := v4) rfl hF (fun hb6 hF => ?_) (fun hb6 hF => ?_)
    · refine CR (S_a (v := .snil) rfl (S_one 2 (v := .sl 1 (List.map c_u8 nB) 0) (.nil _) (Ai rfl (Sn (WP_ret ?_)))))
      with_reducible repeat first | apply Exit.sr | apply Exit.br | apply Exit.jr
      refine C_ret (fn := Tryz.f119) rfl (.tmp (v := .sl 1 (List.map c_u8 nB) 0) rfl (.tmp (v := .I 23) rfl .nil)) ?_
      exact ⟨_, _, (.refl _), .refl _, _, F_some hF, rfl, ok, rfl⟩
    · refine WP_skip (C_seq ?_)
      refine C_drw (mdl []) (by kernel_rfl) (by kernel_rfl) ?_
      refine Mp rfl (S_nilc (v := .ptr _ _) rfl rfl (S_faP rfl ty_fd_95_0 ty_sz_22 (S_ldP (j := 0) ok rfl rfl rfl hq0 (p_one (v := .sl 1 (List.map c_u8 p0.b) 0) ty_ag_22 ty_sz_22 rfl) (Mp rfl (S_nilc (v := .ptr _ _) rfl rfl (S_faP rfl ty_fd_95_1 ty_sz_3 (S_ldP (j := 0) ok rfl rfl rfl hq0 (p_one (v := .I p0.at_) ty_ag_3 ty_sz_3 rfl) (S_bin rfl rfl (ev_add ..) (S_slL rfl ty_sl_22 ty_sz_5 (bd_at rfl) bd_len hF (fun x7 _ hF => S_a (v := .sl _ _ _) rfl (Sn (C_seq ?_))))))))))))
      refine C_drw (mdl [(34, 3)]) (by kernel_rfl) (by kernel_rfl) ?_
      refine Ml rfl (Mp rfl (S_nilc (v := .ptr _ _) rfl rfl (S_faP rfl ty_fd_95_0 ty_sz_22 (S_ldP (j := 0) ok rfl rfl rfl hq0 (p_one (v := .sl 1 (List.map c_u8 p0.b) 0) ty_ag_22 ty_sz_22 rfl) (Mp rfl (S_nilc (v := .ptr _ _) rfl rfl (S_faP rfl ty_fd_95_1 ty_sz_3 (S_ldP (j := 0) ok rfl rfl rfl hq0 (p_one (v := .I p0.at_) ty_ag_3 ty_sz_3 rfl) (S_ix rfl rfl ty_sl_22 ty_sz_5 hF (fun x8 _ hF => S_ldQ rfl (p_one ty_ag_5 ty_sz_5 rfl) (S_call (L_bIndexByte_ok _ hF fun x9 _ hF => (Ai rfl (Sn (C_seq (CR (Mi rfl (S_bin rfl rfl (ev_lss ..) (Sn ?_)))))))) (.refl _))))))))))))
      refine C_if (b := (decide (x9 < (0 : Int)))) rfl hF (fun hb10 hF => ?_) (fun hb10 hF => ?_)
      · refine CR (S_a (v := .snil) rfl (S_one 2 (v := .sl 1 (List.map c_u8 nB) 0) (.nil _) (Ai rfl (Sn (WP_ret ?_)))))
        with_reducible repeat first | apply Exit.sr | apply Exit.br | apply Exit.jr
        refine C_ret (fn := Tryz.f119) rfl (.tmp (v := .sl 1 (List.map c_u8 nB) 0) rfl (.tmp (v := .I 23) rfl .nil)) ?_
        exact ⟨_, _, (.refl _), .refl _, _, F_some hF, rfl, ok, rfl⟩
      · refine WP_skip (CR (Mp rfl (S_nilc (v := .ptr _ _) rfl rfl (S_faP rfl ty_fd_95_1 ty_sz_3 (S_ldP (j := 0) ok rfl rfl rfl hq0 (p_one (v := .I p0.at_) ty_ag_3 ty_sz_3 rfl) (Mi rfl (S_bin rfl rfl (ev_add ..) (S_bin rfl rfl (ev_add ..) (S_nilc (v := .ptr _ _) rfl rfl (S_faP rfl ty_fd_95_1 ty_sz_3 (S_st (j := 0) (cs' := [.sl 1 (List.map c_u8 p0.b) 0, .I (IntKind.wrap .i64 (p0.at_ + (IntKind.wrap .i64 (x9 + (2 : Int)))))]) ok rfl rfl rfl hq0 rfl ty_sz_3 rfl rfl (fun ok => Sn (CR (Ml rfl (Mi rfl (S_slL rfl ty_sl_22 ty_sz_5 bd_no (bd_at rfl) hF (fun x11 _ hF => S_a (v := .sl _ _ _) rfl (Ai rfl (Sn (WP_ret ?_))))))))))))))))))))
        with_reducible repeat first | apply Exit.sr | apply Exit.br | apply Exit.jr
        refine C_ret (fn := Tryz.f119) rfl (.tmp (v := .sl 1 (List.map c_u8 x11) 0) rfl (.tmp (v := .I 0) rfl .nil)) ?_
        exact ⟨_, _, (.refl _), .refl _, _, F_some hF, rfl, ok, rfl⟩
theorem F_scan_scanner_quoted_ok {β : Type} {f0 : (LB × Int) × TS → Option β} {G : β → Prop} {R : D → Heap → Prop} {p0 : TS} {q0 : Nat} (h : Heap) (O : List (Nat × AObj)) (hq0 : q0 ≠ 0) (ok : OK h ((cSc q0 p0) :: O)) (hF : OptP ((F_scan_scanner_quoted p0).bind f0) G) (hk : ∀ r, F_scan_scanner_quoted p0 = some r → OK h ((cSc q0 r.2) :: O) → OptP (f0 r) G → R (.tup [.sl 1 (List.map c_u8 r.1.1) 0, .I r.1.2]) (Hp h ((cSc q0 r.2) :: O))) : CallsA Tryz.prog 119 [.ptr q0 0] (Hp h ((cSc q0 p0) :: O)) R := by
  obtain ⟨r0, hr, hF⟩ := F_bind hF
  refine (F_scan_scanner_quoted_w (G := fun r => r = r0) p0 q0 h O hq0 ok ⟨r0, hr, rfl⟩).mono ?_
  rintro _ _ ⟨r, rfl, rfl, ok', rfl⟩
  exact hk _ hr ok' hF
theorem F_stringslite_HasPrefix_w (p0 : LB) (p1 : LB) {G : Bool → Prop} (h : Heap) (hF : OptP (F_stringslite_HasPrefix p0 p1) G) : CallsA Tryz.prog 191 [.str p0, .str p1] h fun d h' => ∃ r, G r ∧ d = .bool r ∧ h' = h := by
  refine CallsA.ret (C_body Tryz.func191 rfl en_191 Tryz.ntmps191 rfl (fun ok => ?_))
  rw [F_stringslite_HasPrefix] at hF
  refine CR (Ab rfl (Sn (CR (Ms rfl (S_lenS rfl ty_st_9 (Ms rfl (S_lenS rfl ty_st_9 (S_bin rfl rfl (ev_geq ..) (Mb rfl ?_)))))))))
  refine S_twoJ 7 17 hF (fun J2 hb1 hF => ?_) (fun J2 hb1 hF => ?_) (fun v3 hF => ?_)
  · refine Sx rfl rfl hb1 (Ms rfl (Sn (Sx rfl rfl hb1 (Ms rfl (Sn (Sx rfl rfl hb1 (S_lenS rfl ty_st_9 (Sn (Sx rfl rfl hb1 (S_slS rfl ty_st_9 bd_no (bd_at rfl) hF (fun x4 _ hF => Sn (Sx rfl rfl hb1 (Ms rfl (Sn (Sx rfl rfl hb1 (S_bin rfl rfl e_seql (Sn (S_pickT (v := .bool _) rfl hb1 rfl (Sn ?_)))))))))))))))))))
    refine ⟨_, hF, .hd (.refl _) ?_⟩
    repeat first | with_reducible exact .refl _ | refine .add ?_ rfl | exact .refl _
  · refine So rfl rfl hb1 (So rfl rfl hb1 (So rfl rfl hb1 (So rfl rfl hb1 (So rfl rfl hb1 (So rfl rfl hb1 (S_pickF (v := .bool _) rfl hb1 rfl (Sn ?_)))))))
    refine ⟨_, hF, .hd (.refl _) ?_⟩
    repeat first | with_reducible exact .refl _ | refine .add ?_ rfl | exact .refl _
  · refine Ab rfl (Sn (WP_ret ?_))
    with_reducible repeat first | apply Exit.sr | apply Exit.br | apply Exit.jr
    refine C_ret (fn := Tryz.f191) rfl (.tmp (v := .bool v3) rfl .nil) ?_
    exact ⟨_, _, (.refl _), ok.wh, _, F_some hF, rfl, rfl⟩
theorem F_stringslite_HasPrefix_ok {β : Type} {f : Bool → Option β} {G : β → Prop} {R : D → Heap → Prop} {p0 : LB} {p1 : LB} (h : Heap) (hF : OptP ((F_stringslite_HasPrefix p0 p1).bind f) G) (hk : ∀ r, F_stringslite_HasPrefix p0 p1 = some r → OptP (f r) G → R (.bool r) h) : CallsA Tryz.prog 191 [.str p0, .str p1] h R := by
  obtain ⟨r0, hr, hF⟩ := F_bind hF
  refine (F_stringslite_HasPrefix_w (G := fun r => r = r0) p0 p1 h ⟨r0, hr, rfl⟩).mono ?_
  rintro _ _ ⟨r, rfl, rfl, rfl⟩
  exact hk _ hr hF
theorem F_stringslite_CutPrefix_w (p0 : LB) (p1 : LB) {G : LB × Bool → Prop} (h : Heap) (hF : OptP (F_stringslite_CutPrefix p0 p1) G) : CallsA Tryz.prog 181 [.str p0, .str p1] h fun d h' => ∃ r, G r ∧ d = .tup [.str r.1, .bool r.2] ∧ h' = h := by
  refine CallsA.ret (C_body Tryz.func181 rfl en_181 Tryz.ntmps181 rfl (fun ok => ?_))
  rw [F_stringslite_CutPrefix] at hF
  refine CR (S_a (v := .str nB) rfl (Ab rfl (Sn (C_seq (CR (Ms rfl (Ms rfl (S_call (F_stringslite_HasPrefix_ok _ hF fun x1 _ hF => (S_un rfl (ev_not _) (Sn ?_))) (.refl _)))))))))
  refine C_if (b := (!x1)) rfl hF (fun hb2 hF => ?_) (fun hb2 hF => ?_)
  · refine CR (Ms rfl (S_a (v := .str _) rfl (Ab rfl (Sn (WP_ret ?_)))))
    with_reducible repeat first | apply Exit.sr | apply Exit.br | apply Exit.jr
    refine C_ret (fn := Tryz.f181) rfl (.tmp (v := .str p0) rfl (.tmp (v := .bool false) rfl .nil)) ?_
    exact ⟨_, _, (.refl _), ok.wh, _, F_some hF, rfl, rfl⟩
  · refine WP_skip (CR (Ms rfl (Ms rfl (S_lenS rfl ty_st_9 (S_slS rfl ty_st_9 (bd_at rfl) bd_no hF (fun x3 _ hF => S_a (v := .str _) rfl (Ab rfl (Sn (WP_ret ?_)))))))))
    with_reducible repeat first | apply Exit.sr | apply Exit.br | apply Exit.jr
    refine C_ret (fn := Tryz.f181) rfl (.tmp (v := .str x3) rfl (.tmp (v := .bool true) rfl .nil)) ?_
    exact ⟨_, _, (.refl _), ok.wh, _, F_some hF, rfl, rfl⟩
theorem F_stringslite_CutPrefix_ok {β : Type} {f : LB × Bool → Option β} {G : β → Prop} {R : D → Heap → Prop} {p0 : LB} {p1 : LB} (h : Heap) (hF : OptP ((F_stringslite_CutPrefix p0 p1).bind f) G) (hk : ∀ r, F_stringslite_CutPrefix p0 p1 = some r → OptP (f r) G → R (.tup [.str r.1, .bool r.2]) h) : CallsA Tryz.prog 181 [.str p0, .str p1] h R := by
  obtain ⟨r0, hr, hF⟩ := F_bind hF
  refine (F_stringslite_CutPrefix_w (G := fun r => r = r0) p0 p1 h ⟨r0, hr, rfl⟩).mono ?_
  rintro _ _ ⟨r, rfl, rfl, rfl⟩
  exact hk _ hr hF
theorem F_strings_CutPrefix_w (p0 : LB) (p1 : LB) {G : LB × Bool → Prop} (h : Heap) (hF : OptP (F_strings_CutPrefix p0 p1) G) : CallsA Tryz.prog 160 [.str p0, .str p1] h fun d h' => ∃ r, G r ∧ d = .tup [.str r.1, .bool r.2] ∧ h' = h := by
  refine CallsA.ret (C_body Tryz.func160 rfl en_160 Tryz.ntmps160 rfl (fun ok => ?_))
  rw [F_strings_CutPrefix] at hF
  refine CR (S_a (v := .str nB) rfl (Ab rfl (Sn (CR (Ms rfl (Ms rfl (S_call (F_stringslite_CutPrefix_ok _ hF fun x1 _ hF => (S_ext rfl rfl (S_ext rfl rfl (S_a (v := .str _) rfl (Ab rfl (Sn (WP_ret ?_))))))) (.refl _))))))))
  with_reducible repeat first | apply Exit.sr | apply Exit.br | apply Exit.jr
  refine C_ret (fn := Tryz.f160) rfl (.tmp (v := .str x1.1) rfl (.tmp (v := .bool x1.2) rfl .nil)) ?_
  exact ⟨_, _, (.refl _), ok.wh, _, F_some hF, rfl, rfl⟩
theorem F_strings_CutPrefix_ok {β : Type} {f : LB × Bool → Option β} {G : β → Prop} {R : D → Heap → Prop} {p0 : LB} {p1 : LB} (h : Heap) (hF : OptP ((F_strings_CutPrefix p0 p1).bind f) G) (hk : ∀ r, F_strings_CutPrefix p0 p1 = some r → OptP (f r) G → R (.tup [.str r.1, .bool r.2]) h) : CallsA Tryz.prog 160 [.str p0, .str p1] h R := by
  obtain ⟨r0, hr, hF⟩ := F_bind hF
  refine (F_strings_CutPrefix_w (G := fun r => r = r0) p0 p1 h ⟨r0, hr, rfl⟩).mono ?_
  rintro _ _ ⟨r, rfl, rfl, rfl⟩
  exact hk _ hr hF
theorem F_scan_scanner_decl_w (p0 : TS) (p1 : TK) (q0 : Nat) (q1 : Nat) (b1_3 : Nat) {G : Int × TS × TK → Prop} (h : Heap) (O : List (Nat × AObj)) (hq0 : q0 ≠ 0) (hq1 : q1 ≠ 0) (zb1_3 : b1_3 = 0 → p1.Pairs = []) (ok : OK h ((cSc q0 p0) :: (cTk q1 b1_3 p1) :: mo b1_3 cP p1.Pairs :: O)) (hF : OptP (F_scan_scanner_decl p0 p1) G) : CallsA Tryz.prog 79 [.ptr q0 0, .ptr q1 0] (Hp h ((cSc q0 p0) :: (cTk q1 b1_3 p1) :: mo b1_3 cP p1.Pairs :: O)) fun d h' => ∃ r, G r ∧ d = .I r.1 ∧ ∃ b1_3' : Nat, (b1_3' = 0 → r.2.2.Pairs = []) ∧ OK h ((cSc q0 r.2.1) :: (cTk q1 b1_3' r.2.2) :: mo b1_3' cP r.2.2.Pairs :: O) ∧ h' = Hp h ((cSc q0 r.2.1) :: (cTk q1 b1_3' r.2.2) :: mo b1_3' cP r.2.2.Pairs :: O) := by
  rw [F_scan_scanner_decl] at hF
  exact F_none hF
theorem F_scan_scanner_decl_ok {β : Type} {f0 : Int × TS × TK → Option β} {G : β → Prop} {R : D → Heap → Prop} {p0 : TS} {p1 : TK} {q0 : Nat} {q1 : Nat} {b1_3 : Nat} (h : Heap) (O : List (Nat × AObj)) (hq0 : q0 ≠ 0) (hq1 : q1 ≠ 0) (zb1_3 : b1_3 = 0 → p1.Pairs = []) (ok : OK h ((cSc q0 p0) :: (cTk q1 b1_3 p1) :: mo b1_3 cP p1.Pairs :: O)) (hF : OptP ((F_scan_scanner_decl p0 p1).bind f0) G) (hk : ∀ r b1_3', F_scan_scanner_decl p0 p1 = some r → (b1_3' = 0 → r.2.2.Pairs = []) → OK h ((cSc q0 r.2.1) :: (cTk q1 b1_3' r.2.2) :: mo b1_3' cP r.2.2.Pairs :: O) → OptP (f0 r) G → R (.I r.1) (Hp h ((cSc q0 r.2.1) :: (cTk q1 b1_3' r.2.2) :: mo b1_3' cP r.2.2.Pairs :: O))) : CallsA Tryz.prog 79 [.ptr q0 0, .ptr q1 0] (Hp h ((cSc q0 p0) :: (cTk q1 b1_3 p1) :: mo b1_3 cP p1.Pairs :: O)) R := by
  obtain ⟨r0, hr, hF⟩ := F_bind hF
  refine (F_scan_scanner_decl_w (G := fun r => r = r0) p0 p1 q0 q1 b1_3 h O hq0 hq1 zb1_3 ok ⟨r0, hr, rfl⟩).mono ?_
  rintro _ _ ⟨r, rfl, rfl, b1_3', y0, ok', rfl⟩
  exact hk _ _ hr y0 ok' hF
theorem F_scan_scanner_upTo_w (p0 : TS) (p1 : TK) (p2 : Int) (p3 : LB) (q0 : Nat) (q1 : Nat) (b1_3 : Nat) {G : Int × TS × TK → Prop} (h : Heap) (O : List (Nat × AObj)) (hq0 : q0 ≠ 0) (hq1 : q1 ≠ 0) (zb1_3 : b1_3 = 0 → p1.Pairs = []) (ok : OK h ((cSc q0 p0) :: (cTk q1 b1_3 p1) :: mo b1_3 cP p1.Pairs :: O)) (hF : OptP (F_scan_scanner_upTo p0 p1 p2 p3) G) : CallsA Tryz.prog 80 [.ptr q0 0, .ptr q1 0, .I p2, .str p3] (Hp h ((cSc q0 p0) :: (cTk q1 b1_3 p1) :: mo b1_3 cP p1.Pairs :: O)) fun d h' => ∃ r, G r ∧ d = .I r.1 ∧ ∃ b1_3' : Nat, (b1_3' = 0 → r.2.2.Pairs = []) ∧ OK h ((cSc q0 r.2.1) :: (cTk q1 b1_3' r.2.2) :: mo b1_3' cP r.2.2.Pairs :: O) ∧ h' = Hp h ((cSc q0 r.2.1) :: (cTk q1 b1_3' r.2.2) :: mo b1_3' cP r.2.2.Pairs :: O) := by
  refine CallsA.ret (C_bodyO Tryz.func80 rfl en_80 Tryz.ntmps80 rfl ?_)
  rw [F_scan_scanner_upTo] at hF
  refine CR (Ai rfl (Sn (C_seq ?_)))
  refine C_drw (mdl []) (by kernel_rfl) (by kernel_rfl) ?_
  refine Mp rfl (S_nilc (v := .ptr _ _) rfl rfl (S_faP rfl ty_fd_95_0 ty_sz_22 (S_ldP (j := 0) ok rfl rfl rfl hq0 (p_one (v := .sl 1 (List.map c_u8 p0.b) 0) ty_ag_22 ty_sz_22 rfl) (Mp rfl (S_nilc (v := .ptr _ _) rfl rfl (S_faP rfl ty_fd_95_1 ty_sz_3 (S_ldP (j := 0) ok rfl rfl rfl hq0 (p_one (v := .I p0.at_) ty_ag_3 ty_sz_3 rfl) (Mi rfl (S_bin rfl rfl (ev_add ..) (S_slL rfl ty_sl_22 ty_sz_5 (bd_at rfl) bd_len hF (fun x1 _ hF => S_a (v := .sl _ _ _) rfl (Sn (CR (Ml rfl (Ms rfl (S_byt0 rfl rfl ty_sl_22 ty_st_9 ty_ki_5 (S_call (L_bIndex_ok _ hF fun x2 _ hF => (Ai rfl (Sn (C_seq (CR (Mi rfl (S_bin rfl rfl (ev_lss ..) (Sn ?_)))))))) (.refl _))))))))))))))))))
  refine C_if (b := (decide (x2 < (0 : Int)))) rfl hF (fun hb3 hF => ?_) (fun hb3 hF => ?_)
  · refine CR (Ai rfl (Sn (WP_ret ?_)))
    with_reducible repeat first | apply Exit.sr | apply Exit.br | apply Exit.jr
    refine C_ret (fn := Tryz.f80) rfl (.tmp (v := .I 23) rfl .nil) ?_
    exact ⟨_, _, (.refl _), .refl _, _, F_some hF, rfl, b1_3, zb1_3, ok, rfl⟩
  · refine WP_skip (CR (Mp rfl (Ml rfl (Mi rfl (S_slL rfl ty_sl_22 ty_sz_5 bd_no (bd_at rfl) hF (fun x4 _ hF => S_conv rfl (e_cbs ty_sl_22 ty_ki_5 ty_st_9) (S_nilc (v := .ptr _ _) rfl rfl (S_faP rfl ty_fd_66_4 ty_sz_9 (S_st (j := 1) (cs' := [.I p1.Kind, .I p1.At, .str p1.Name, mslO 2 b1_3 p1.Pairs, .str x4, .I p1.Refs]) ok rfl rfl rfl hq1 rfl ty_sz_9 rfl rfl (fun ok => Sn (CR (Mp rfl (S_nilc (v := .ptr _ _) rfl rfl (S_faP rfl ty_fd_95_1 ty_sz_3 (S_ldP (j := 0) ok rfl rfl rfl hq0 (p_one (v := .I p0.at_) ty_ag_3 ty_sz_3 rfl) (Mi rfl (Mi rfl (S_bin rfl rfl (ev_add ..) (Ms rfl (S_lenS rfl ty_st_9 (S_bin rfl rfl (ev_add ..) (S_bin rfl rfl (ev_add ..) (S_nilc (v := .ptr _ _) rfl rfl (S_faP rfl ty_fd_95_1 ty_sz_3 (S_st (j := 0) (cs' := [.sl 1 (List.map c_u8 p0.b) 0, .I (IntKind.wrap .i64 (p0.at_ + (IntKind.wrap .i64 ((IntKind.wrap .i64 (p2 + x2)) + (p3.length : Int)))))]) ok rfl rfl rfl hq0 rfl ty_sz_3 rfl rfl (fun ok => Sn (CR (Ai rfl (Sn (WP_ret ?_))))))))))))))))))))))))))))))
    with_reducible repeat first | apply Exit.sr | apply Exit.br | apply Exit.jr
    refine C_ret (fn := Tryz.f80) rfl (.tmp (v := .I 0) rfl .nil) ?_
    exact ⟨_, _, (.refl _), .refl _, _, F_some hF, rfl, b1_3, zb1_3, ok, rfl⟩
theorem F_scan_scanner_upTo_ok {β : Type} {f0 : Int × TS × TK → Option β} {G : β → Prop} {R : D → Heap → Prop} {p0 : TS} {p1 : TK} {p2 : Int} {p3 : LB} {q0 : Nat} {q1 : Nat} {b1_3 : Nat} (h : Heap) (O : List (Nat × AObj)) (hq0 : q0 ≠ 0) (hq1 : q1 ≠ 0) (zb1_3 : b1_3 = 0 → p1.Pairs = []) (ok : OK h ((cSc q0 p0) :: (cTk q1 b1_3 p1) :: mo b1_3 cP p1.Pairs :: O)) (hF : OptP ((F_scan_scanner_upTo p0 p1 p2 p3).bind f0) G) (hk : ∀ r b1_3', F_scan_scanner_upTo p0 p1 p2 p3 = some r → (b1_3' = 0 → r.2.2.Pairs = []) → OK h ((cSc q0 r.2.1) :: (cTk q1 b1_3' r.2.2) :: mo b1_3' cP r.2.2.Pairs :: O) → OptP (f0 r) G → R (.I r.1) (Hp h ((cSc q0 r.2.1) :: (cTk q1 b1_3' r.2.2) :: mo b1_3' cP r.2.2.Pairs :: O))) : CallsA Tryz.prog 80 [.ptr q0 0, .ptr q1 0, .I p2, .str p3] (Hp h ((cSc q0 p0) :: (cTk q1 b1_3 p1) :: mo b1_3 cP p1.Pairs :: O)) R := by
  obtain ⟨r0, hr, hF⟩ := F_bind hF
  refine (F_scan_scanner_upTo_w (G := fun r => r = r0) p0 p1 p2 p3 q0 q1 b1_3 h O hq0 hq1 zb1_3 ok ⟨r0, hr, rfl⟩).mono ?_
  rintro _ _ ⟨r, rfl, rfl, b1_3', y0, ok', rfl⟩
  exact hk _ _ hr y0 ok' hF
theorem F_char_IsStart_w (p0 : Int) {G : Bool → Prop} (h : Heap) (hF : OptP (F_char_IsStart p0) G) : CallsA Tryz.prog 103 [.int .i32 p0] h fun d h' => ∃ r, G r ∧ d = .bool r ∧ h' = h := by
  refine CallsA.ret (C_body Tryz.func103 rfl en_103 Tryz.ntmps103 rfl (fun ok => ?_))
  rw [F_char_IsStart] at hF
  refine CR (Ab rfl (Sn (C_seq (CR (Mi rfl (S_bin rfl rfl (ev_lss ..) (Sn ?_)))))))
  refine C_if (b := (decide (p0 < (128 : Int)))) rfl hF (fun hb1 hF => ?_) (fun hb1 hF => ?_)
  · refine CR (Mi rfl (S_bin rfl rfl (ev_geq ..) (Mb rfl ?_)))
    refine S_two (b := (decide ((97 : Int) ≤ p0))) 3 10 (.bool ((decide ((97 : Int) ≤ p0)) && (decide (p0 ≤ (122 : Int))))) (fun hb2 => ?_) (fun hb2 => ?_) ?_
    · refine Sx rfl rfl hb2 (Mi rfl (Sn (Sx rfl rfl hb2 (S_bin rfl rfl (ev_leq ..) (Sn (S_pickT (v := .bool _) rfl hb2 rfl (Sn (.hd (and_t hb2) ?_))))))))
      repeat first | with_reducible exact .refl _ | refine .add ?_ rfl | exact .refl _
    · refine So rfl rfl hb2 (So rfl rfl hb2 (S_pickF (v := .bool _) rfl hb2 rfl (Sn (.hd (and_f hb2) ?_))))
      repeat first | with_reducible exact .refl _ | refine .add ?_ rfl | exact .refl _
    refine Mb rfl ?_
    refine S_two (b := ((decide ((97 : Int) ≤ p0)) && (decide (p0 ≤ (122 : Int))))) 7 18 (.bool (((decide ((97 : Int) ≤ p0)) && (decide (p0 ≤ (122 : Int)))) || ((decide ((65 : Int) ≤ p0)) && (decide (p0 ≤ (90 : Int)))))) (fun hb3 => ?_) (fun hb3 => ?_) ?_
    · refine So rfl rfl hb3 (So rfl rfl hb3 (So rfl rfl hb3 (S_off2 rfl rfl (S_offD (S_off2 rfl rfl (S_offD (So rfl rfl hb3 (S_pickT (v := .bool _) rfl hb3 rfl (Sn (.hd (or_t hb3) ?_))))))))))
      repeat first | with_reducible exact .refl _ | refine .add ?_ rfl | exact .refl _
    · refine Sx rfl rfl hb3 (Mi rfl (Sn (Sx rfl rfl hb3 (S_bin rfl rfl (ev_geq ..) (Sn (Sx rfl rfl hb3 (Mb rfl (Sn ?_))))))))
      refine S_two (b := (decide ((65 : Int) ≤ p0))) 3 17 (.bool ((decide ((65 : Int) ≤ p0)) && (decide (p0 ≤ (90 : Int))))) (fun hb5 => ?_) (fun hb5 => ?_) ?_
      · refine Sx rfl rfl hb5 (Mi rfl (Sn (Sx rfl rfl hb5 (S_bin rfl rfl (ev_leq ..) (Sn (Sx rfl rfl hb3 (S_pickT (v := .bool _) rfl hb5 rfl (Sn (Sn (.hd (and_t hb5) ?_))))))))))
        repeat first | with_reducible exact .refl _ | refine .add ?_ rfl | exact .refl _
      · refine So rfl rfl hb5 (So rfl rfl hb5 (Sx rfl rfl hb3 (S_pickF (v := .bool _) rfl hb5 rfl (Sn (Sn (.hd (and_f hb5) ?_))))))
        repeat first | with_reducible exact .refl _ | refine .add ?_ rfl | exact .refl _
      refine S_pickF (v := .bool _) rfl hb3 rfl (Sn (.hd (or_f hb3) ?_))
      repeat first | with_reducible exact .refl _ | refine .add ?_ rfl | exact .refl _
    refine Mb rfl ?_
    refine S_two (b := (((decide ((97 : Int) ≤ p0)) && (decide (p0 ≤ (122 : Int)))) || ((decide ((65 : Int) ≤ p0)) && (decide (p0 ≤ (90 : Int)))))) 3 22 (.bool ((((decide ((97 : Int) ≤ p0)) && (decide (p0 ≤ (122 : Int)))) || ((decide ((65 : Int) ≤ p0)) && (decide (p0 ≤ (90 : Int))))) || (p0 == (95 : Int)))) (fun hb6 => ?_) (fun hb6 => ?_) ?_
    · refine So rfl rfl hb6 (So rfl rfl hb6 (S_pickT (v := .bool _) rfl hb6 rfl (Sn (.hd (or_t hb6) ?_))))
      repeat first | with_reducible exact .refl _ | refine .add ?_ rfl | exact .refl _
    · refine Sx rfl rfl hb6 (Mi rfl (Sn (Sx rfl rfl hb6 (S_bin rfl rfl (ev_eql ..) (Sn (S_pickF (v := .bool _) rfl hb6 rfl (Sn (.hd (or_f hb6) ?_))))))))
      repeat first | with_reducible exact .refl _ | refine .add ?_ rfl | exact .refl _
    refine Ab rfl (Sn (WP_ret ?_))
    with_reducible repeat first | apply Exit.sr | apply Exit.br | apply Exit.jr
    refine C_ret (fn := Tryz.f103) rfl (.tmp (v := .bool ((((decide ((97 : Int) ≤ p0)) && (decide (p0 ≤ (122 : Int)))) || ((decide ((65 : Int) ≤ p0)) && (decide (p0 ≤ (90 : Int))))) || (p0 == (95 : Int)))) rfl .nil) ?_
    exact ⟨_, _, (.refl _), ok.wh, _, F_some hF, rfl, rfl⟩
  · refine WP_skip (CR (Mi rfl (S_bld (v := .agg (c_T_char_span (⟨(192 : Int), (214 : Int)⟩ : T_char_span))) (b_st ty_zc_199 ty_pl_199 rfl) (S_bld (v := .agg (c_T_char_span (⟨(216 : Int), (246 : Int)⟩ : T_char_span))) (b_st ty_zc_199 ty_pl_199 rfl) (S_bld (v := .agg (c_T_char_span (⟨(248 : Int), (767 : Int)⟩ : T_char_span))) (b_st ty_zc_199 ty_pl_199 rfl) (S_bld (v := .agg (c_T_char_span (⟨(880 : Int), (893 : Int)⟩ : T_char_span))) (b_st ty_zc_199 ty_pl_199 rfl) (S_bld (v := .agg (c_T_char_span (⟨(895 : Int), (8191 : Int)⟩ : T_char_span))) (b_st ty_zc_199 ty_pl_199 rfl) (S_bld (v := .agg (c_T_char_span (⟨(8204 : Int), (8205 : Int)⟩ : T_char_span))) (b_st ty_zc_199 ty_pl_199 rfl) (S_bld (v := .agg (c_T_char_span (⟨(8304 : Int), (8591 : Int)⟩ : T_char_span))) (b_st ty_zc_199 ty_pl_199 rfl) (S_bld (v := .agg (c_T_char_span (⟨(11264 : Int), (12271 : Int)⟩ : T_char_span))) (b_st ty_zc_199 ty_pl_199 rfl) (S_bld (v := .agg (c_T_char_span (⟨(12289 : Int), (55295 : Int)⟩ : T_char_span))) (b_st ty_zc_199 ty_pl_199 rfl) (S_bld (v := .agg (c_T_char_span (⟨(63744 : Int), (64975 : Int)⟩ : T_char_span))) (b_st ty_zc_199 ty_pl_199 rfl) (S_bld (v := .agg (c_T_char_span (⟨(65008 : Int), (65533 : Int)⟩ : T_char_span))) (b_st ty_zc_199 ty_pl_199 rfl) (S_bld (v := .agg (c_T_char_span (⟨(65536 : Int), (983039 : Int)⟩ : T_char_span))) (b_st ty_zc_199 ty_pl_199 rfl) ?_))))))))))))))
    refine S_lit0 (cs := [.int .i32 (⟨(192 : Int), (214 : Int)⟩ : T_char_span).lo, .int .i32 (⟨(192 : Int), (214 : Int)⟩ : T_char_span).hi, .int .i32 (⟨(216 : Int), (246 : Int)⟩ : T_char_span).lo, .int .i32 (⟨(216 : Int), (246 : Int)⟩ : T_char_span).hi, .int .i32 (⟨(248 : Int), (767 : Int)⟩ : T_char_span).lo, .int .i32 (⟨(248 : Int), (767 : Int)⟩ : T_char_span).hi, .int .i32 (⟨(880 : Int), (893 : Int)⟩ : T_char_span).lo, .int .i32 (⟨(880 : Int), (893 : Int)⟩ : T_char_span).hi, .int .i32 (⟨(895 : Int), (8191 : Int)⟩ : T_char_span).lo, .int .i32 (⟨(895 : Int), (8191 : Int)⟩ : T_char_span).hi, .int .i32 (⟨(8204 : Int), (8205 : Int)⟩ : T_char_span).lo, .int .i32 (⟨(8204 : Int), (8205 : Int)⟩ : T_char_span).hi, .int .i32 (⟨(8304 : Int), (8591 : Int)⟩ : T_char_span).lo, .int .i32 (⟨(8304 : Int), (8591 : Int)⟩ : T_char_span).hi, .int .i32 (⟨(11264 : Int), (12271 : Int)⟩ : T_char_span).lo, .int .i32 (⟨(11264 : Int), (12271 : Int)⟩ : T_char_span).hi, .int .i32 (⟨(12289 : Int), (55295 : Int)⟩ : T_char_span).lo, .int .i32 (⟨(12289 : Int), (55295 : Int)⟩ : T_char_span).hi, .int .i32 (⟨(63744 : Int), (64975 : Int)⟩ : T_char_span).lo, .int .i32 (⟨(63744 : Int), (64975 : Int)⟩ : T_char_span).hi, .int .i32 (⟨(65008 : Int), (65533 : Int)⟩ : T_char_span).lo, .int .i32 (⟨(65008 : Int), (65533 : Int)⟩ : T_char_span).hi, .int .i32 (⟨(65536 : Int), (983039 : Int)⟩ : T_char_span).lo, .int .i32 (⟨(65536 : Int), (983039 : Int)⟩ : T_char_span).hi]) (es := (List.map c_T_char_span [(⟨(192 : Int), (214 : Int)⟩ : T_char_span), (⟨(216 : Int), (246 : Int)⟩ : T_char_span), (⟨(248 : Int), (767 : Int)⟩ : T_char_span), (⟨(880 : Int), (893 : Int)⟩ : T_char_span), (⟨(895 : Int), (8191 : Int)⟩ : T_char_span), (⟨(8204 : Int), (8205 : Int)⟩ : T_char_span), (⟨(8304 : Int), (8591 : Int)⟩ : T_char_span), (⟨(11264 : Int), (12271 : Int)⟩ : T_char_span), (⟨(12289 : Int), (55295 : Int)⟩ : T_char_span), (⟨(63744 : Int), (64975 : Int)⟩ : T_char_span), (⟨(65008 : Int), (65533 : Int)⟩ : T_char_span), (⟨(65536 : Int), (983039 : Int)⟩ : T_char_span)])) rfl ty_el_200 rfl (by kernel_rfl) (by kernel_rfl) ?_
    refine S_call (F_char_in_ok _ hF fun x7 _ hF => (Ab rfl (Sn (WP_ret ?_)))) (.refl _)
    with_reducible repeat first | apply Exit.sr | apply Exit.br | apply Exit.jr
    refine C_ret (fn := Tryz.f103) rfl (.tmp (v := .bool x7) rfl .nil) ?_
    exact ⟨_, _, (.refl _), ok.wh, _, F_some hF, rfl, rfl⟩
theorem F_char_IsStart_ok {β : Type} {f : Bool → Option β} {G : β → Prop} {R : D → Heap → Prop} {p0 : Int} (h : Heap) (hF : OptP ((F_char_IsStart p0).bind f) G) (hk : ∀ r, F_char_IsStart p0 = some r → OptP (f r) G → R (.bool r) h) : CallsA Tryz.prog 103 [.int .i32 p0] h R := by
  obtain ⟨r0, hr, hF⟩ := F_bind hF
  refine (F_char_IsStart_w (G := fun r => r = r0) p0 h ⟨r0, hr, rfl⟩).mono ?_
  rintro _ _ ⟨r, rfl, rfl, rfl⟩
  exact hk _ hr hF
theorem F_char_IsPart_w (p0 : Int) {G : Bool → Prop} (h : Heap) (hF : OptP (F_char_IsPart p0) G) : CallsA Tryz.prog 104 [.int .i32 p0] h fun d h' => ∃ r, G r ∧ d = .bool r ∧ h' = h := by
  refine CallsA.ret (C_body Tryz.func104 rfl en_104 Tryz.ntmps104 rfl (fun ok => ?_))
  rw [F_char_IsPart] at hF
  refine CR (Ab rfl (Sn (CR (Mi rfl (S_call (F_char_IsStart_ok _ hF fun x1 _ hF => (Mb rfl ?_)) (.refl _))))))
  refine S_two (b := x1) 3 8 (.bool (x1 || (p0 == (45 : Int)))) (fun hb2 => ?_) (fun hb2 => ?_) ?_
  · refine So rfl rfl hb2 (So rfl rfl hb2 (S_pickT (v := .bool _) rfl hb2 rfl (Sn (.hd (or_t hb2) ?_))))
    repeat first | with_reducible exact .refl _ | refine .add ?_ rfl | exact .refl _
  · refine Sx rfl rfl hb2 (Mi rfl (Sn (Sx rfl rfl hb2 (S_bin rfl rfl (ev_eql ..) (Sn (S_pickF (v := .bool _) rfl hb2 rfl (Sn (.hd (or_f hb2) ?_))))))))
    repeat first | with_reducible exact .refl _ | refine .add ?_ rfl | exact .refl _
  refine Mb rfl ?_
  refine S_two (b := (x1 || (p0 == (45 : Int)))) 3 12 (.bool ((x1 || (p0 == (45 : Int))) || (p0 == (46 : Int)))) (fun hb3 => ?_) (fun hb3 => ?_) ?_
  · refine So rfl rfl hb3 (So rfl rfl hb3 (S_pickT (v := .bool _) rfl hb3 rfl (Sn (.hd (or_t hb3) ?_))))
    repeat first | with_reducible exact .refl _ | refine .add ?_ rfl | exact .refl _
  · refine Sx rfl rfl hb3 (Mi rfl (Sn (Sx rfl rfl hb3 (S_bin rfl rfl (ev_eql ..) (Sn (S_pickF (v := .bool _) rfl hb3 rfl (Sn (.hd (or_f hb3) ?_))))))))
    repeat first | with_reducible exact .refl _ | refine .add ?_ rfl | exact .refl _
  refine Mb rfl ?_
  refine S_two (b := ((x1 || (p0 == (45 : Int))) || (p0 == (46 : Int)))) 7 20 (.bool (((x1 || (p0 == (45 : Int))) || (p0 == (46 : Int))) || ((decide ((48 : Int) ≤ p0)) && (decide (p0 ≤ (57 : Int)))))) (fun hb4 => ?_) (fun hb4 => ?_) ?_
  · refine So rfl rfl hb4 (So rfl rfl hb4 (So rfl rfl hb4 (S_off2 rfl rfl (S_offD (S_off2 rfl rfl (S_offD (So rfl rfl hb4 (S_pickT (v := .bool _) rfl hb4 rfl (Sn (.hd (or_t hb4) ?_))))))))))
    repeat first | with_reducible exact .refl _ | refine .add ?_ rfl | exact .refl _
  · refine Sx rfl rfl hb4 (Mi rfl (Sn (Sx rfl rfl hb4 (S_bin rfl rfl (ev_geq ..) (Sn (Sx rfl rfl hb4 (Mb rfl (Sn ?_))))))))
    refine S_two (b := (decide ((48 : Int) ≤ p0))) 3 19 (.bool ((decide ((48 : Int) ≤ p0)) && (decide (p0 ≤ (57 : Int))))) (fun hb6 => ?_) (fun hb6 => ?_) ?_
    · refine Sx rfl rfl hb6 (Mi rfl (Sn (Sx rfl rfl hb6 (S_bin rfl rfl (ev_leq ..) (Sn (Sx rfl rfl hb4 (S_pickT (v := .bool _) rfl hb6 rfl (Sn (Sn (.hd (and_t hb6) ?_))))))))))
      repeat first | with_reducible exact .refl _ | refine .add ?_ rfl | exact .refl _
    · refine So rfl rfl hb6 (So rfl rfl hb6 (Sx rfl rfl hb4 (S_pickF (v := .bool _) rfl hb6 rfl (Sn (Sn (.hd (and_f hb6) ?_))))))
      repeat first | with_reducible exact .refl _ | refine .add ?_ rfl | exact .refl _
    refine S_pickF (v := .bool _) rfl hb4 rfl (Sn (.hd (or_f hb4) ?_))
    repeat first | with_reducible exact .refl _ | refine .add ?_ rfl | exact .refl _
  refine Mb rfl ?_
  refine S_two (b := (((x1 || (p0 == (45 : Int))) || (p0 == (46 : Int))) || ((decide ((48 : Int) ≤ p0)) && (decide (p0 ≤ (57 : Int)))))) 3 24 (.bool ((((x1 || (p0 == (45 : Int))) || (p0 == (46 : Int))) || ((decide ((48 : Int) ≤ p0)) && (decide (p0 ≤ (57 : Int))))) || (p0 == (183 : Int)))) (fun hb7 => ?_) (fun hb7 => ?_) ?_
  · refine So rfl rfl hb7 (So rfl rfl hb7 (S_pickT (v := .bool _) rfl hb7 rfl (Sn (.hd (or_t hb7) ?_))))
    repeat first | with_reducible exact .refl _ | refine .add ?_ rfl | exact .refl _
  · refine Sx rfl rfl hb7 (Mi rfl (Sn (Sx rfl rfl hb7 (S_bin rfl rfl (ev_eql ..) (Sn (S_pickF (v := .bool _) rfl hb7 rfl (Sn (.hd (or_f hb7) ?_))))))))
    repeat first | with_reducible exact .refl _ | refine .add ?_ rfl | exact .refl _
  refine Mb rfl ?_
  refine S_twoJ 6 31 hF (fun J9 hb8 hF => ?_) (fun J9 hb8 hF => ?_) (fun v10 hF => ?_)
  · refine So rfl rfl hb8 (So rfl rfl hb8 (So rfl rfl hb8 (So rfl rfl hb8 (So rfl rfl hb8 (S_pickT (v := .bool _) rfl hb8 rfl (Sn ?_))))))
    refine ⟨_, hF, .hd (.refl _) ?_⟩
    repeat first | with_reducible exact .refl _ | refine .add ?_ rfl | exact .refl _
  · refine Sx rfl rfl hb8 (Mi rfl (Sn (Sx rfl rfl hb8 (S_bld (v := .agg (c_T_char_span (⟨(768 : Int), (879 : Int)⟩ : T_char_span))) (b_st ty_zc_199 ty_pl_199 rfl) (Sn (Sx rfl rfl hb8 (S_bld (v := .agg (c_T_char_span (⟨(8255 : Int), (8256 : Int)⟩ : T_char_span))) (b_st ty_zc_199 ty_pl_199 rfl) (Sn (Sx rfl rfl hb8 ?_)))))))))
    refine S_lit0 (cs := [.int .i32 (⟨(768 : Int), (879 : Int)⟩ : T_char_span).lo, .int .i32 (⟨(768 : Int), (879 : Int)⟩ : T_char_span).hi, .int .i32 (⟨(8255 : Int), (8256 : Int)⟩ : T_char_span).lo, .int .i32 (⟨(8255 : Int), (8256 : Int)⟩ : T_char_span).hi]) (es := (List.map c_T_char_span [(⟨(768 : Int), (879 : Int)⟩ : T_char_span), (⟨(8255 : Int), (8256 : Int)⟩ : T_char_span)])) rfl ty_el_200 rfl (by kernel_rfl) (by kernel_rfl) ?_
    refine Sn (Sx rfl rfl hb8 (S_call (F_char_in_ok _ hF fun x11 _ hF => (Sn (S_pickF (v := .bool _) rfl hb8 rfl (Sn ?_)))) (.refl _)))
    refine ⟨_, hF, .hd (.refl _) ?_⟩
    repeat first | with_reducible exact .refl _ | refine .add ?_ rfl | exact .refl _
  · refine Ab rfl (Sn (WP_ret ?_))
    with_reducible repeat first | apply Exit.sr | apply Exit.br | apply Exit.jr
    refine C_ret (fn := Tryz.f104) rfl (.tmp (v := .bool v10) rfl .nil) ?_
    exact ⟨_, _, (.refl _), ok.wh, _, F_some hF, rfl, rfl⟩
theorem F_char_IsPart_ok {β : Type} {f : Bool → Option β} {G : β → Prop} {R : D → Heap → Prop} {p0 : Int} (h : Heap) (hF : OptP ((F_char_IsPart p0).bind f) G) (hk : ∀ r, F_char_IsPart p0 = some r → OptP (f r) G → R (.bool r) h) : CallsA Tryz.prog 104 [.int .i32 p0] h R := by
  obtain ⟨r0, hr, hF⟩ := F_bind hF
  refine (F_char_IsPart_w (G := fun r => r = r0) p0 h ⟨r0, hr, rfl⟩).mono ?_
  rintro _ _ ⟨r, rfl, rfl, rfl⟩
  exact hk _ hr hF
theorem F_char_Name_w (p0 : LB) {G : Bool → Prop} (h : Heap) (hF : OptP (F_char_Name p0) G) : CallsA Tryz.prog 68 [.str p0] h fun d h' => ∃ r, G r ∧ d = .bool r ∧ h' = h := by
  refine CallsA.ret (C_body Tryz.func68 rfl en_68 Tryz.ntmps68 rfl (fun ok => ?_))
  rw [F_char_Name] at hF
  refine CR (Ab rfl (Sn (C_seq (CR (Ms rfl (S_bin rfl rfl e_seql (Mb rfl ?_)))))))
  refine S_two (b := (p0 == nB)) 4 11 (.bool ((p0 == nB) || (decide ((100 : Int) < (p0.length : Int))))) (fun hb1 => ?_) (fun hb1 => ?_) ?_
  · refine So rfl rfl hb1 (So rfl rfl hb1 (So rfl rfl hb1 (S_pickT (v := .bool _) rfl hb1 rfl (Sn (.hd (or_t hb1) ?_)))))
    repeat first | with_reducible exact .refl _ | refine .add ?_ rfl | exact .refl _
  · refine Sx rfl rfl hb1 (Ms rfl (Sn (Sx rfl rfl hb1 (S_lenS rfl ty_st_9 (Sn (Sx rfl rfl hb1 (S_bin rfl rfl (ev_gtr ..) (Sn (S_pickF (v := .bool _) rfl hb1 rfl (Sn (.hd (or_f hb1) ?_)))))))))))
    repeat first | with_reducible exact .refl _ | refine .add ?_ rfl | exact .refl _
  refine Mb rfl ?_
  refine S_twoJ 4 16 hF (fun J3 hb2 hF => ?_) (fun J3 hb2 hF => ?_) (fun v4 hF => ?_)
  · refine So rfl rfl hb2 (So rfl rfl hb2 (So rfl rfl hb2 (S_pickT (v := .bool _) rfl hb2 rfl (Sn ?_))))
    refine ⟨_, hF, .hd (.refl _) ?_⟩
    repeat first | with_reducible exact .refl _ | refine .add ?_ rfl | exact .refl _
  · refine Sx rfl rfl hb2 (Ms rfl (Sn (Sx rfl rfl hb2 (S_call (L_ValidString_ok _ hF fun x5 _ hF => (Sn (Sx rfl rfl hb2 (S_un rfl (ev_not _) (Sn (S_pickF (v := .bool _) rfl hb2 rfl (Sn ?_))))))) (.refl _)))))
    refine ⟨_, hF, .hd (.refl _) ?_⟩
    repeat first | with_reducible exact .refl _ | refine .add ?_ rfl | exact .refl _
  · refine Sn ?_
    refine C_if (b := v4) rfl hF (fun hb6 hF => ?_) (fun hb6 hF => ?_)
    · refine CR (Ab rfl (Sn (WP_ret ?_)))
      with_reducible repeat first | apply Exit.sr | apply Exit.br | apply Exit.jr
      refine C_ret (fn := Tryz.f68) rfl (.tmp (v := .bool false) rfl .nil) ?_
      exact ⟨_, _, (.refl _), ok.wh, _, F_some hF, rfl, rfl⟩
    · refine WP_skip ?_
      refine C_join hF (fun (_ : Unit) s' => OK h [] ∧ WS s' ⟨mkSl 35 [], Hp h []⟩) (fun J18 hF => ?_) ?_
      · refine CR (Ms rfl (S_rng ok rfl ty_st_9 ?_))
        intro i19 hi19 ok
        refine Sn (WP_block ?_)
        refine C_loop (σ := Nat) hF (fun (a20 : Nat) s' => OK h [(i19, .iter p0 a20)] ∧ WS s' ⟨mkSl 35 [(18, .ptr i19 0)], Hp h [(i19, .iter p0 a20)]⟩) ?_ ?_
        · exact ⟨ok, WS.mk' (.k .nil) ok (.refl _)⟩
        · rintro G21 hG22 rec23 a20 s' ih24 hF ⟨ok, hws⟩
          refine WP_ws hws ?_
          clear hws s'
          rw [F_char_Name_l0] at hF
          refine C_seq (C_reg (mdl []) ?_)
          refine S_nxt (j := 0) ok rfl rfl hi19 hF (fun _ ok hF => ?_) (fun hF => ?_)
          · refine S_ext rfl rfl (Sn (C_seq (C_tt rfl rfl (WP_skip (WP_block (CR (S_ext rfl rfl (S_ext rfl rfl (Ai rfl (Ai rfl (Sn (CR (Mi rfl (S_bin rfl rfl (ev_eql ..) (Mb rfl ?_)))))))))))))))
            refine S_twoJ 4 29 hF (fun J26 hb25 hF => ?_) (fun J26 hb25 hF => ?_) (fun v27 hF => ?_)
            · refine Sx rfl rfl hb25 (Mi rfl (Sn (Sx rfl rfl hb25 (S_call (F_char_IsStart_ok _ hF fun x28 _ hF => (Sn (Sx rfl rfl hb25 (S_un rfl (ev_not _) (Sn (S_pickT (v := .bool _) rfl hb25 rfl (Sn ?_))))))) (.refl _)))))
              refine ⟨_, hF, .hd (.refl _) ?_⟩
              repeat first | with_reducible exact .refl _ | refine .add ?_ rfl | exact .refl _
            · refine So rfl rfl hb25 (So rfl rfl hb25 (So rfl rfl hb25 (S_pickF (v := .bool _) rfl hb25 rfl (Sn ?_))))
              refine ⟨_, hF, .hd (.refl _) ?_⟩
              repeat first | with_reducible exact .refl _ | refine .add ?_ rfl | exact .refl _
            · refine Mb rfl ?_
              refine S_twoJ 4 34 hF (fun J30 hb29 hF => ?_) (fun J30 hb29 hF => ?_) (fun v31 hF => ?_)
              · refine So rfl rfl hb29 (So rfl rfl hb29 (So rfl rfl hb29 (S_pickT (v := .bool _) rfl hb29 rfl (Sn ?_))))
                refine ⟨_, hF, .hd (.refl _) ?_⟩
                repeat first | with_reducible exact .refl _ | refine .add ?_ rfl | exact .refl _
              · refine Sx rfl rfl hb29 (Mi rfl (Sn (Sx rfl rfl hb29 (S_call (F_char_IsPart_ok _ hF fun x32 _ hF => (Sn (Sx rfl rfl hb29 (S_un rfl (ev_not _) (Sn (S_pickF (v := .bool _) rfl hb29 rfl (Sn ?_))))))) (.refl _)))))
                refine ⟨_, hF, .hd (.refl _) ?_⟩
                repeat first | with_reducible exact .refl _ | refine .add ?_ rfl | exact .refl _
              · refine Sn ?_
                refine C_if (b := v31) rfl hF (fun hb33 hF => ?_) (fun hb33 hF => ?_)
                · refine CR (Ab rfl (Sn (WP_ret ?_)))
                  replace hF := hG22 _ (F_some hF)
                  with_reducible repeat first | apply Exit.sr | apply Exit.br | apply Exit.jr
                  refine C_ret (fn := Tryz.f68) rfl (.tmp (v := .bool false) rfl .nil) ?_
                  exact ⟨_, _, (.refl _), ok.wh, _, F_some hF, rfl, rfl⟩
                · refine WP_skip (ih24 (a20 + wdS p0 a20) _ hF ?_)
                  exact ⟨ok, WS.mk' (.k .nil) ok (.refl _)⟩
          · refine S_ext rfl rfl (Sn (C_seq (C_ff rfl rfl (WP_exit ?_))))
            simp only [Exit.sel, Exit.blk, Exit.jmp, if_true, if_false, reduceIte, Nat.reduceEqDiff, Nat.succ_ne_zero, Nat.zero_ne_one, Nat.one_ne_zero]
            replace hF := hG22 _ (F_some hF)
            have hwo : WO [(i19, .iter p0 a20)] [] := (.drop .nil)
            exact ⟨(), hF, (hwo.spec ok).1, WS.mk' .nil ok hwo⟩
      · rintro ⟨⟩ s' hF ⟨ok, hws⟩
        refine WP_ws hws ?_
        clear hws s'
        refine CR (Ab rfl (Sn (WP_ret ?_)))
        with_reducible repeat first | apply Exit.sr | apply Exit.br | apply Exit.jr
        refine C_ret (fn := Tryz.f68) rfl (.tmp (v := .bool true) rfl .nil) ?_
        exact ⟨_, _, (.refl _), ok.wh, _, F_some hF, rfl, rfl⟩
theorem F_char_Name_ok {β : Type} {f : Bool → Option β} {G : β → Prop} {R : D → Heap → Prop} {p0 : LB} (h : Heap) (hF : OptP ((F_char_Name p0).bind f) G) (hk : ∀ r, F_char_Name p0 = some r → OptP (f r) G → R (.bool r) h) : CallsA Tryz.prog 68 [.str p0] h R := by
  obtain ⟨r0, hr, hF⟩ := F_bind hF
  refine (F_char_Name_w (G := fun r => r = r0) p0 h ⟨r0, hr, rfl⟩).mono ?_
  rintro _ _ ⟨r, rfl, rfl, rfl⟩
  exact hk _ hr hF
theorem F_char_Split_w (p0 : LB) {G : LB × LB × Bool → Prop} (h : Heap) (hF : OptP (F_char_Split p0) G) : CallsA Tryz.prog 136 [.str p0] h fun d h' => ∃ r, G r ∧ d = .tup [.str r.1, .str r.2.1, .bool r.2.2] ∧ h' = h := by
  refine CallsA.ret (C_body Tryz.func136 rfl en_136 Tryz.ntmps136 rfl (fun ok => ?_))
  rw [F_char_Split] at hF
  refine CR (S_a (v := .str nB) rfl (S_a (v := .str nB) rfl (Ab rfl (Sn (CR (Ms rfl (S_call (L_Cut_ok _ hF fun x1 _ hF => (S_m (v := .tup _) rfl (S_ext rfl rfl (S_ext rfl rfl (S_ext rfl rfl (S_a (v := .str _) rfl (S_a (v := .str _) rfl (Ab rfl (Sn (C_seq (WP_block (CR (Mb rfl (S_un rfl (ev_not _) (Mb rfl ?_))))))))))))))) (.refl _))))))))
  refine S_twoJ 3 18 hF (fun J3 hb2 hF => ?_) (fun J3 hb2 hF => ?_) (fun v4 hF => ?_)
  · refine Sx rfl rfl hb2 (Ms rfl (Sn (Sx rfl rfl hb2 (S_call (F_char_Name_ok _ hF fun x5 _ hF => (Sn (S_pickT (v := .bool _) rfl hb2 rfl (Sn ?_)))) (.refl _)))))
    refine ⟨_, hF, .hd (.refl _) ?_⟩
    repeat first | with_reducible exact .refl _ | refine .add ?_ rfl | exact .refl _
  · refine So rfl rfl hb2 (So rfl rfl hb2 (S_pickF (v := .bool _) rfl hb2 rfl (Sn ?_)))
    refine ⟨_, hF, .hd (.refl _) ?_⟩
    repeat first | with_reducible exact .refl _ | refine .add ?_ rfl | exact .refl _
  · refine Ab rfl (Sn ?_)
    refine C_if (b := v4) rfl hF (fun hb6 hF => ?_) (fun hb6 hF => ?_)
    · refine CR (Ms rfl (S_a (v := .str nB) rfl (S_a (v := .str _) rfl (Ab rfl (Sn (WP_ret ?_))))))
      with_reducible repeat first | apply Exit.sr | apply Exit.br | apply Exit.jr
      refine C_ret (fn := Tryz.f136) rfl (.tmp (v := .str nB) rfl (.tmp (v := .str p0) rfl (.tmp (v := .bool true) rfl .nil))) ?_
      exact ⟨_, _, (.refl _), ok.wh, _, F_some hF, rfl, rfl⟩
    · refine CR (Mb rfl (Mb rfl ?_))
      refine S_twoJ 3 25 hF (fun J8 hb7 hF => ?_) (fun J8 hb7 hF => ?_) (fun v9 hF => ?_)
      · refine Sx rfl rfl hb7 (Ms rfl (Sn (Sx rfl rfl hb7 (S_call (F_char_Name_ok _ hF fun x10 _ hF => (Sn (S_pickT (v := .bool _) rfl hb7 rfl (Sn ?_)))) (.refl _)))))
        refine ⟨_, hF, .hd (.refl _) ?_⟩
        repeat first | with_reducible exact .refl _ | refine .add ?_ rfl | exact .refl _
      · refine So rfl rfl hb7 (So rfl rfl hb7 (S_pickF (v := .bool _) rfl hb7 rfl (Sn ?_)))
        refine ⟨_, hF, .hd (.refl _) ?_⟩
        repeat first | with_reducible exact .refl _ | refine .add ?_ rfl | exact .refl _
      · refine Mb rfl ?_
        refine S_twoJ 3 29 hF (fun J12 hb11 hF => ?_) (fun J12 hb11 hF => ?_) (fun v13 hF => ?_)
        · refine Sx rfl rfl hb11 (Ms rfl (Sn (Sx rfl rfl hb11 (S_call (F_char_Name_ok _ hF fun x14 _ hF => (Sn (S_pickT (v := .bool _) rfl hb11 rfl (Sn ?_)))) (.refl _)))))
          refine ⟨_, hF, .hd (.refl _) ?_⟩
          repeat first | with_reducible exact .refl _ | refine .add ?_ rfl | exact .refl _
        · refine So rfl rfl hb11 (So rfl rfl hb11 (S_pickF (v := .bool _) rfl hb11 rfl (Sn ?_)))
          refine ⟨_, hF, .hd (.refl _) ?_⟩
          repeat first | with_reducible exact .refl _ | refine .add ?_ rfl | exact .refl _
        · refine Ab rfl (Sn ?_)
          refine C_if (b := v13) rfl hF (fun hb15 hF => ?_) (fun hb15 hF => ?_)
          · refine CR (Ms rfl (Ms rfl (S_a (v := .str _) rfl (S_a (v := .str _) rfl (Ab rfl (Sn (WP_ret ?_)))))))
            with_reducible repeat first | apply Exit.sr | apply Exit.br | apply Exit.jr
            refine C_ret (fn := Tryz.f136) rfl (.tmp (v := .str x1.1) rfl (.tmp (v := .str x1.2.1) rfl (.tmp (v := .bool true) rfl .nil))) ?_
            exact ⟨_, _, (.refl _), ok.wh, _, F_some hF, rfl, rfl⟩
          · refine WP_skip (CR (S_a (v := .str nB) rfl (S_a (v := .str nB) rfl (Ab rfl (Sn (WP_ret ?_))))))
            with_reducible repeat first | apply Exit.sr | apply Exit.br | apply Exit.jr
            refine C_ret (fn := Tryz.f136) rfl (.tmp (v := .str nB) rfl (.tmp (v := .str nB) rfl (.tmp (v := .bool false) rfl .nil))) ?_
            exact ⟨_, _, (.refl _), ok.wh, _, F_some hF, rfl, rfl⟩
theorem F_char_Split_ok {β : Type} {f : LB × LB × Bool → Option β} {G : β → Prop} {R : D → Heap → Prop} {p0 : LB} (h : Heap) (hF : OptP ((F_char_Split p0).bind f) G) (hk : ∀ r, F_char_Split p0 = some r → OptP (f r) G → R (.tup [.str r.1, .str r.2.1, .bool r.2.2]) h) : CallsA Tryz.prog 136 [.str p0] h R := by
  obtain ⟨r0, hr, hF⟩ := F_bind hF
  refine (F_char_Split_w (G := fun r => r = r0) p0 h ⟨r0, hr, rfl⟩).mono ?_
  rintro _ _ ⟨r, rfl, rfl, rfl⟩
  exact hk _ hr hF
theorem F_scan_scanner_name_w (p0 : TS) (q0 : Nat) {G : (LB × Int) × TS → Prop} (h : Heap) (O : List (Nat × AObj)) (hq0 : q0 ≠ 0) (ok : OK h ((cSc q0 p0) :: O)) (hF : OptP (F_scan_scanner_name p0) G) : CallsA Tryz.prog 122 [.ptr q0 0] (Hp h ((cSc q0 p0) :: O)) fun d h' => ∃ r, G r ∧ d = .tup [.str r.1.1, .I r.1.2] ∧ OK h ((cSc q0 r.2) :: O) ∧ h' = Hp h ((cSc q0 r.2) :: O) := by
  refine CallsA.ret (C_bodyO Tryz.func122 rfl en_122 Tryz.ntmps122 rfl ?_)
  rw [F_scan_scanner_name] at hF
  refine CR (S_a (v := .str nB) rfl (Ai rfl (Sn (CR (Mp rfl (S_nilc (v := .ptr _ _) rfl rfl (S_faP rfl ty_fd_95_1 ty_sz_3 (S_ldP (j := 0) ok rfl rfl rfl hq0 (p_one (v := .I p0.at_) ty_ag_3 ty_sz_3 rfl) (Ai rfl (Sn ?_))))))))))
  refine C_join hF (fun (a17 : Int) s' => OK h ((cSc q0 p0) :: O) ∧ WS s' ⟨mkSl 81 [(0, .ptr q0 0), (4, .I a17)], Hp h ((cSc q0 p0) :: O)⟩) (fun J18 hF => ?_) ?_
  · refine WP_block ?_
    refine C_loop (σ := Int) hF (fun (a19 : Int) s' => OK h ((cSc q0 p0) :: O) ∧ WS s' ⟨mkSl 81 [(0, .ptr q0 0), (4, .I a19)], Hp h ((cSc q0 p0) :: O)⟩) ?_ ?_
    · exact ⟨ok, WS.mk' (.k (.k .nil)) ok (.refl _)⟩
    · rintro G20 hG21 rec22 a19 s' ih23 hF ⟨ok, hws⟩
      refine WP_ws hws ?_
      clear hws s'
      rw [F_scan_scanner_name_l0] at hF
      refine C_seq (CR (Mi rfl (Mp rfl (S_nilc (v := .ptr _ _) rfl rfl (S_faP rfl ty_fd_95_0 ty_sz_22 (S_ldP (j := 0) ok rfl rfl rfl hq0 (p_one (v := .sl 1 (List.map c_u8 p0.b) 0) ty_ag_22 ty_sz_22 rfl) (S_lenL rfl ty_sl_22 (S_bin rfl rfl (ev_lss ..) (Sn ?_)))))))))
      refine C_if (b := (decide (a19 < (p0.b.length : Int)))) rfl hF (fun hb24 hF => ?_) (fun hb24 hF => ?_)
      · refine WP_skip (WP_block (CR (Mp rfl (S_nilc (v := .ptr _ _) rfl rfl (S_faP rfl ty_fd_95_0 ty_sz_22 (S_ldP (j := 0) ok rfl rfl rfl hq0 (p_one (v := .sl 1 (List.map c_u8 p0.b) 0) ty_ag_22 ty_sz_22 rfl) (Mi rfl (S_slL rfl ty_sl_22 ty_sz_5 (bd_at rfl) bd_len hF (fun x25 _ hF => S_call (L_DecodeRune_ok _ hF fun x26 _ hF => (S_m (v := .tup _) rfl (S_ext rfl rfl (S_ext rfl rfl (Ai rfl (Ai rfl (Sn (C_seq (CR (Mi rfl (S_bin rfl rfl (ev_neq ..) (Mb rfl ?_)))))))))))) (.refl _))))))))))
        refine S_twoJ 17 51 hF (fun J28 hb27 hF => ?_) (fun J28 hb27 hF => ?_) (fun v29 hF => ?_)
        · refine Sx rfl rfl hb27 (Mi rfl (Sn (Sx rfl rfl hb27 (S_call (F_char_IsPart_ok _ hF fun x30 _ hF => (Sn (Sx rfl rfl hb27 (S_un rfl (ev_not _) (Sn (Sx rfl rfl hb27 (Mb rfl (Sn ?_)))))))) (.refl _)))))
          refine S_twoJ 12 50 hF (fun J32 hb31 hF => ?_) (fun J32 hb31 hF => ?_) (fun v33 hF => ?_)
          · refine So rfl rfl hb31 (So rfl rfl hb31 (So rfl rfl hb31 (So rfl rfl hb31 (So rfl rfl hb31 (So rfl rfl hb31 (So rfl rfl hb31 (S_off2 rfl rfl (S_offD (S_off2 rfl rfl (S_offD (S_off2 rfl rfl (S_offD (So rfl rfl hb31 (Sx rfl rfl hb27 (S_pickT (v := .bool _) rfl hb31 rfl (Sn (Sn ?_)))))))))))))))))
            refine ⟨_, hF, .hd (.refl _) ?_⟩
            repeat first | with_reducible exact .refl _ | refine .add ?_ rfl | exact .refl _
          · refine Sx rfl rfl hb31 (Mi rfl (Sn (Sx rfl rfl hb31 (Mp rfl (Sn (Sx rfl rfl hb31 (S_nilc (v := .ptr _ _) rfl rfl (Sn (Sx rfl rfl hb31 (S_faP rfl ty_fd_95_1 ty_sz_3 (Sn (Sx rfl rfl hb31 (S_ldP (j := 0) ok rfl rfl rfl hq0 (p_one (v := .I p0.at_) ty_ag_3 ty_sz_3 rfl) (Sn (Sx rfl rfl hb31 (S_bin rfl rfl (ev_eql ..) (Sn (Sx rfl rfl hb31 (Mb rfl (Sn ?_))))))))))))))))))))
            refine S_twoJ 4 49 hF (fun J35 hb34 hF => ?_) (fun J35 hb34 hF => ?_) (fun v36 hF => ?_)
            · refine Sx rfl rfl hb34 (Mi rfl (Sn (Sx rfl rfl hb34 (S_call (F_char_IsStart_ok _ hF fun x37 _ hF => (Sn (Sx rfl rfl hb34 (S_un rfl (ev_not _) (Sn (Sx rfl rfl hb31 (S_pickT (v := .bool _) rfl hb34 rfl (Sn (Sn ?_))))))))) (.refl _)))))
              refine ⟨_, hF, .hd (.refl _) ?_⟩
              repeat first | with_reducible exact .refl _ | refine .add ?_ rfl | exact .refl _
            · refine So rfl rfl hb34 (So rfl rfl hb34 (So rfl rfl hb34 (Sx rfl rfl hb31 (S_pickF (v := .bool _) rfl hb34 rfl (Sn (Sn ?_))))))
              refine ⟨_, hF, .hd (.refl _) ?_⟩
              repeat first | with_reducible exact .refl _ | refine .add ?_ rfl | exact .refl _
            · refine Sx rfl rfl hb27 (S_pickF (v := .bool _) rfl hb31 rfl (Sn (Sn ?_)))
              refine ⟨_, hF, .hd (.refl _) ?_⟩
              repeat first | with_reducible exact .refl _ | refine .add ?_ rfl | exact .refl _
          · refine S_pickT (v := .bool _) rfl hb27 rfl (Sn ?_)
            refine ⟨_, hF, .hd (.refl _) ?_⟩
            repeat first | with_reducible exact .refl _ | refine .add ?_ rfl | exact .refl _
        · refine So rfl rfl hb27 (So rfl rfl hb27 (So rfl rfl hb27 (So rfl rfl hb27 (S_off2 rfl rfl (S_offD (S_off2 rfl rfl (S_offD (S_off2 rfl rfl (S_offD (S_off2 rfl rfl (S_offD (S_off2 rfl rfl (S_offD (S_off2 rfl rfl (S_offD (S_off2 rfl rfl (S_offD (S_off2 rfl rfl (S_offD (S_off2 rfl rfl (S_offD (S_off2 rfl rfl (S_offD (S_off2 rfl rfl (S_offD (So rfl rfl hb27 (S_pickF (v := .bool _) rfl hb27 rfl (Sn ?_))))))))))))))))))))))))))))
          refine ⟨_, hF, .hd (.refl _) ?_⟩
          repeat first | with_reducible exact .refl _ | refine .add ?_ rfl | exact .refl _
        · refine Sn ?_
          refine C_if (b := v29) rfl hF (fun hb38 hF => ?_) (fun hb38 hF => ?_)
          · refine WP_exit ?_
            simp only [Exit.sel, Exit.blk, Exit.jmp, if_true, if_false, reduceIte, Nat.reduceEqDiff, Nat.succ_ne_zero, Nat.zero_ne_one, Nat.one_ne_zero]
            replace hF := hG21 _ (F_some hF)
            exact ⟨a19, hF, ok, WS.mk' (.k (.k .nil)) ok (.refl _)⟩
          · refine WP_skip (C_reg (mdl []) (Mi rfl (Mi rfl (S_bin rfl rfl (ev_add ..) (Ai rfl (Sn (ih23 (IntKind.wrap .i64 (a19 + x26.2)) _ hF ?_)))))))
            exact ⟨ok, WS.mk' (.k (.k .nil)) ok (.refl _)⟩
      · refine WP_exit ?_
        simp only [Exit.sel, Exit.blk, Exit.jmp, if_true, if_false, reduceIte, Nat.reduceEqDiff, Nat.succ_ne_zero, Nat.zero_ne_one, Nat.one_ne_zero]
        replace hF := hG21 _ (F_some hF)
        exact ⟨a19, hF, ok, WS.mk' (.k (.k .nil)) ok (.refl _)⟩
  · rintro a17 s' hF ⟨ok, hws⟩
    refine WP_ws hws ?_
    clear hws s'
    refine C_seq ?_
    refine C_drw (mdl []) (by kernel_rfl) (by kernel_rfl) ?_
    refine Mp rfl (S_nilc (v := .ptr _ _) rfl rfl (S_faP rfl ty_fd_95_0 ty_sz_22 (S_ldP (j := 0) ok rfl rfl rfl hq0 (p_one (v := .sl 1 (List.map c_u8 p0.b) 0) ty_ag_22 ty_sz_22 rfl) (Mp rfl (S_nilc (v := .ptr _ _) rfl rfl (S_faP rfl ty_fd_95_1 ty_sz_3 (S_ldP (j := 0) ok rfl rfl rfl hq0 (p_one (v := .I p0.at_) ty_ag_3 ty_sz_3 rfl) (Mi rfl (S_slL rfl ty_sl_22 ty_sz_5 (bd_at rfl) (bd_at rfl) hF (fun x39 _ hF => S_conv rfl (e_cbs ty_sl_22 ty_ki_5 ty_st_9) (S_a (v := .str _) rfl (Sn (C_seq (CR (Ms rfl (S_bin rfl rfl e_seql (Sn ?_)))))))))))))))))
    refine C_if (b := (x39 == nB)) rfl hF (fun hb40 hF => ?_) (fun hb40 hF => ?_)
    · refine CR (S_a (v := .str nB) rfl (Ai rfl (Sn (WP_ret ?_))))
      with_reducible repeat first | apply Exit.sr | apply Exit.br | apply Exit.jr
      refine C_ret (fn := Tryz.f122) rfl (.tmp (v := .str nB) rfl (.tmp (v := .I 23) rfl .nil)) ?_
      exact ⟨_, _, (.refl _), .refl _, _, F_some hF, rfl, ok, rfl⟩
    · refine WP_skip (C_seq (CR (Ms rfl (S_call (F_char_Split_ok _ hF fun x41 _ hF => (S_m (v := .tup _) rfl (S_ext rfl rfl (S_ext rfl rfl (S_ext rfl rfl (S_a (v := .str _) rfl (S_a (v := .str _) rfl (Ab rfl (Sn (CR (Mb rfl (S_un rfl (ev_not _) (Sn ?_))))))))))))) (.refl _)))))
      refine C_if (b := (!x41.2.2)) rfl hF (fun hb42 hF => ?_) (fun hb42 hF => ?_)
      · refine CR (S_a (v := .str nB) rfl (Ai rfl (Sn (WP_ret ?_))))
        with_reducible repeat first | apply Exit.sr | apply Exit.br | apply Exit.jr
        refine C_ret (fn := Tryz.f122) rfl (.tmp (v := .str nB) rfl (.tmp (v := .I 24) rfl .nil)) ?_
        exact ⟨_, _, (.refl _), .refl _, _, F_some hF, rfl, ok, rfl⟩
      · refine WP_skip (CR (Mp rfl (Mi rfl (S_nilc (v := .ptr _ _) rfl rfl (S_faP rfl ty_fd_95_1 ty_sz_3 (S_st (j := 0) (cs' := [.sl 1 (List.map c_u8 p0.b) 0, .I a17]) ok rfl rfl rfl hq0 rfl ty_sz_3 rfl rfl (fun ok => Sn (CR (Ms rfl (S_a (v := .str _) rfl (Ai rfl (Sn (WP_ret ?_)))))))))))))
        with_reducible repeat first | apply Exit.sr | apply Exit.br | apply Exit.jr
        refine C_ret (fn := Tryz.f122) rfl (.tmp (v := .str x39) rfl (.tmp (v := .I 0) rfl .nil)) ?_
        exact ⟨_, _, (.refl _), .refl _, _, F_some hF, rfl, ok, rfl⟩
theorem F_scan_scanner_name_ok {β : Type} {f0 : (LB × Int) × TS → Option β} {G : β → Prop} {R : D → Heap → Prop} {p0 : TS} {q0 : Nat} (h : Heap) (O : List (Nat × AObj)) (hq0 : q0 ≠ 0) (ok : OK h ((cSc q0 p0) :: O)) (hF : OptP ((F_scan_scanner_name p0).bind f0) G) (hk : ∀ r, F_scan_scanner_name p0 = some r → OK h ((cSc q0 r.2) :: O) → OptP (f0 r) G → R (.tup [.str r.1.1, .I r.1.2]) (Hp h ((cSc q0 r.2) :: O))) : CallsA Tryz.prog 122 [.ptr q0 0] (Hp h ((cSc q0 p0) :: O)) R := by
  obtain ⟨r0, hr, hF⟩ := F_bind hF
  refine (F_scan_scanner_name_w (G := fun r => r = r0) p0 q0 h O hq0 ok ⟨r0, hr, rfl⟩).mono ?_
  rintro _ _ ⟨r, rfl, rfl, ok', rfl⟩
  exact hk _ hr ok' hF
theorem F_scan_scanner_instr_w (p0 : TS) (p1 : TK) (q0 : Nat) (q1 : Nat) (b1_3 : Nat) {G : Int × TS × TK → Prop} (h : Heap) (O : List (Nat × AObj)) (hq0 : q0 ≠ 0) (hq1 : q1 ≠ 0) (zb1_3 : b1_3 = 0 → p1.Pairs = []) (ok : OK h ((cSc q0 p0) :: (cTk q1 b1_3 p1) :: mo b1_3 cP p1.Pairs :: O)) (hF : OptP (F_scan_scanner_instr p0 p1) G) : CallsA Tryz.prog 82 [.ptr q0 0, .ptr q1 0] (Hp h ((cSc q0 p0) :: (cTk q1 b1_3 p1) :: mo b1_3 cP p1.Pairs :: O)) fun d h' => ∃ r, G r ∧ d = .I r.1 ∧ ∃ b1_3' : Nat, (b1_3' = 0 → r.2.2.Pairs = []) ∧ OK h ((cSc q0 r.2.1) :: (cTk q1 b1_3' r.2.2) :: mo b1_3' cP r.2.2.Pairs :: O) ∧ h' = Hp h ((cSc q0 r.2.1) :: (cTk q1 b1_3' r.2.2) :: mo b1_3' cP r.2.2.Pairs :: O) := by
  rw [F_scan_scanner_instr] at hF
  exact F_none hF
theorem F_scan_scanner_instr_ok {β : Type} {f0 : Int × TS × TK → Option β} {G : β → Prop} {R : D → Heap → Prop} {p0 : TS} {p1 : TK} {q0 : Nat} {q1 : Nat} {b1_3 : Nat} (h : Heap) (O : List (Nat × AObj)) (hq0 : q0 ≠ 0) (hq1 : q1 ≠ 0) (zb1_3 : b1_3 = 0 → p1.Pairs = []) (ok : OK h ((cSc q0 p0) :: (cTk q1 b1_3 p1) :: mo b1_3 cP p1.Pairs :: O)) (hF : OptP ((F_scan_scanner_instr p0 p1).bind f0) G) (hk : ∀ r b1_3', F_scan_scanner_instr p0 p1 = some r → (b1_3' = 0 → r.2.2.Pairs = []) → OK h ((cSc q0 r.2.1) :: (cTk q1 b1_3' r.2.2) :: mo b1_3' cP r.2.2.Pairs :: O) → OptP (f0 r) G → R (.I r.1) (Hp h ((cSc q0 r.2.1) :: (cTk q1 b1_3' r.2.2) :: mo b1_3' cP r.2.2.Pairs :: O))) : CallsA Tryz.prog 82 [.ptr q0 0, .ptr q1 0] (Hp h ((cSc q0 p0) :: (cTk q1 b1_3 p1) :: mo b1_3 cP p1.Pairs :: O)) R := by
  obtain ⟨r0, hr, hF⟩ := F_bind hF
  refine (F_scan_scanner_instr_w (G := fun r => r = r0) p0 p1 q0 q1 b1_3 h O hq0 hq1 zb1_3 ok ⟨r0, hr, rfl⟩).mono ?_
  rintro _ _ ⟨r, rfl, rfl, b1_3', y0, ok', rfl⟩
  exact hk _ _ hr y0 ok' hF
theorem F_scan_scanner_closing_w (p0 : TS) (p1 : TK) (q0 : Nat) (q1 : Nat) (b1_3 : Nat) {G : Int × TS × TK → Prop} (h : Heap) (O : List (Nat × AObj)) (hq0 : q0 ≠ 0) (hq1 : q1 ≠ 0) (zb1_3 : b1_3 = 0 → p1.Pairs = []) (ok : OK h ((cSc q0 p0) :: (cTk q1 b1_3 p1) :: mo b1_3 cP p1.Pairs :: O)) (hF : OptP (F_scan_scanner_closing p0 p1) G) : CallsA Tryz.prog 83 [.ptr q0 0, .ptr q1 0] (Hp h ((cSc q0 p0) :: (cTk q1 b1_3 p1) :: mo b1_3 cP p1.Pairs :: O)) fun d h' => ∃ r, G r ∧ d = .I r.1 ∧ ∃ b1_3' : Nat, (b1_3' = 0 → r.2.2.Pairs = []) ∧ OK h ((cSc q0 r.2.1) :: (cTk q1 b1_3' r.2.2) :: mo b1_3' cP r.2.2.Pairs :: O) ∧ h' = Hp h ((cSc q0 r.2.1) :: (cTk q1 b1_3' r.2.2) :: mo b1_3' cP r.2.2.Pairs :: O) := by
  refine CallsA.ret (C_bodyO Tryz.func83 rfl en_83 Tryz.ntmps83 rfl ?_)
  rw [F_scan_scanner_closing] at hF
  refine CR (Ai rfl (Sn (CR (Mp rfl (S_nilc (v := .ptr _ _) rfl rfl (S_faP rfl ty_fd_66_0 ty_sz_3 (S_st (j := 1) (cs' := [.I 3, .I p1.At, .str p1.Name, mslO 2 b1_3 p1.Pairs, .str p1.Text, .I p1.Refs]) ok rfl rfl rfl hq1 rfl ty_sz_3 rfl rfl (fun ok => Sn (CR (Mp rfl (S_nilc (v := .ptr _ _) rfl rfl (S_faP rfl ty_fd_95_1 ty_sz_3 (S_ldP (j := 0) ok rfl rfl rfl hq0 (p_one (v := .I p0.at_) ty_ag_3 ty_sz_3 rfl) (S_bin rfl rfl (ev_add ..) (S_nilc (v := .ptr _ _) rfl rfl (S_faP rfl ty_fd_95_1 ty_sz_3 (S_st (j := 0) (cs' := [.sl 1 (List.map c_u8 p0.b) 0, .I (IntKind.wrap .i64 (p0.at_ + (2 : Int)))]) ok rfl rfl rfl hq0 rfl ty_sz_3 rfl rfl (fun ok => Sn (CR (Mp rfl (S_call (F_scan_scanner_name_ok (p0 := (⟨p0.b, (IntKind.wrap .i64 (p0.at_ + (2 : Int)))⟩ : TS)) (q0 := q0) h _ hq0 ok hF fun x1 _  ok hF => (S_m (v := .tup _) rfl (S_ext rfl rfl (S_ext rfl rfl (S_a (v := .str _) rfl (Ai rfl (Sn (C_seq (CR (Mi rfl (S_bin rfl rfl (ev_neq ..) (Sn ?_)))))))))))) (.refl _))))))))))))))))))))))
  refine C_if (b := (x1.1.2 != (0 : Int))) rfl hF (fun hb2 hF => ?_) (fun hb2 hF => ?_)
  · refine CR (Mi rfl (Ai rfl (Sn (WP_ret ?_))))
    with_reducible repeat first | apply Exit.sr | apply Exit.br | apply Exit.jr
    refine C_ret (fn := Tryz.f83) rfl (.tmp (v := .I x1.1.2) rfl .nil) ?_
    exact ⟨_, _, (.refl _), .refl _, _, F_some hF, rfl, b1_3, zb1_3, ok, rfl⟩
  · refine WP_skip (CR (Mp rfl (Ms rfl (S_nilc (v := .ptr _ _) rfl rfl (S_faP rfl ty_fd_66_2 ty_sz_9 (S_st (j := 1) (cs' := [.I 3, .I p1.At, .str x1.1.1, mslO 2 b1_3 p1.Pairs, .str p1.Text, .I p1.Refs]) ok rfl rfl rfl hq1 rfl ty_sz_9 rfl rfl (fun ok => Sn (CR (Mp rfl (Mp rfl (Mp rfl (S_nilc (v := .ptr _ _) rfl rfl (S_faP rfl ty_fd_95_1 ty_sz_3 (S_ldP (j := 0) ok rfl rfl rfl hq0 (p_one (v := .I x1.2.at_) ty_ag_3 ty_sz_3 rfl) (S_call (F_scan_scanner_spaces_ok (p0 := x1.2) (q0 := q0) h _ hq0 ok hF fun x3 _  ok hF => (S_nilc (v := .ptr _ _) rfl rfl (S_faP rfl ty_fd_95_1 ty_sz_3 (S_st (j := 0) (cs' := [.sl 1 (List.map c_u8 x1.2.b) 0, .I x3]) ok rfl rfl rfl hq0 rfl ty_sz_3 rfl rfl (fun ok => Sn (CR (Mp rfl (S_call (F_scan_scanner_sign_ok (p0 := (⟨x1.2.b, x3⟩ : TS)) (q0 := q0) h _ hq0 ok hF fun x4 _  ok hF => (Ai rfl (Sn (WP_ret ?_)))) (.refl _))))))))) (.refl _))))))))))))))))
    with_reducible repeat first | apply Exit.sr | apply Exit.br | apply Exit.jr
    refine C_ret (fn := Tryz.f83) rfl (.tmp (v := .I x4.1) rfl .nil) ?_
    exact ⟨_, _, (.refl _), .refl _, _, F_some hF, rfl, b1_3, zb1_3, ok, rfl⟩
theorem F_scan_scanner_closing_ok {β : Type} {f0 : Int × TS × TK → Option β} {G : β → Prop} {R : D → Heap → Prop} {p0 : TS} {p1 : TK} {q0 : Nat} {q1 : Nat} {b1_3 : Nat} (h : Heap) (O : List (Nat × AObj)) (hq0 : q0 ≠ 0) (hq1 : q1 ≠ 0) (zb1_3 : b1_3 = 0 → p1.Pairs = []) (ok : OK h ((cSc q0 p0) :: (cTk q1 b1_3 p1) :: mo b1_3 cP p1.Pairs :: O)) (hF : OptP ((F_scan_scanner_closing p0 p1).bind f0) G) (hk : ∀ r b1_3', F_scan_scanner_closing p0 p1 = some r → (b1_3' = 0 → r.2.2.Pairs = []) → OK h ((cSc q0 r.2.1) :: (cTk q1 b1_3' r.2.2) :: mo b1_3' cP r.2.2.Pairs :: O) → OptP (f0 r) G → R (.I r.1) (Hp h ((cSc q0 r.2.1) :: (cTk q1 b1_3' r.2.2) :: mo b1_3' cP r.2.2.Pairs :: O))) : CallsA Tryz.prog 83 [.ptr q0 0, .ptr q1 0] (Hp h ((cSc q0 p0) :: (cTk q1 b1_3 p1) :: mo b1_3 cP p1.Pairs :: O)) R := by
  obtain ⟨r0, hr, hF⟩ := F_bind hF
  refine (F_scan_scanner_closing_w (G := fun r => r = r0) p0 p1 q0 q1 b1_3 h O hq0 hq1 zb1_3 ok ⟨r0, hr, rfl⟩).mono ?_
  rintro _ _ ⟨r, rfl, rfl, b1_3', y0, ok', rfl⟩
  exact hk _ _ hr y0 ok' hF
theorem F_refer_digit_w (p0 : Int) {G : Int → Prop} (h : Heap) (hF : OptP (F_refer_digit p0) G) : CallsA Tryz.prog 194 [.int .u8 p0] h fun d h' => ∃ r, G r ∧ d = .I r ∧ h' = h := by
  refine CallsA.ret (C_body Tryz.func194 rfl en_194 Tryz.ntmps194 rfl (fun ok => ?_))
  rw [F_refer_digit] at hF
  refine CR (Ai rfl (Sn (C_seq (WP_block (CR (Mi rfl (S_bin rfl rfl (ev_geq ..) (Mb rfl ?_))))))))
  refine S_two (b := (decide ((48 : Int) ≤ p0))) 3 9 (.bool ((decide ((48 : Int) ≤ p0)) && (decide (p0 ≤ (57 : Int))))) (fun hb1 => ?_) (fun hb1 => ?_) ?_
  · refine Sx rfl rfl hb1 (Mi rfl (Sn (Sx rfl rfl hb1 (S_bin rfl rfl (ev_leq ..) (Sn (S_pickT (v := .bool _) rfl hb1 rfl (Sn (.hd (and_t hb1) ?_))))))))
    repeat first | with_reducible exact .refl _ | refine .add ?_ rfl | exact .refl _
  · refine So rfl rfl hb1 (So rfl rfl hb1 (S_pickF (v := .bool _) rfl hb1 rfl (Sn (.hd (and_f hb1) ?_))))
    repeat first | with_reducible exact .refl _ | refine .add ?_ rfl | exact .refl _
  refine Ab rfl (Sn ?_)
  refine C_if (b := ((decide ((48 : Int) ≤ p0)) && (decide (p0 ≤ (57 : Int))))) rfl hF (fun hb2 hF => ?_) (fun hb2 hF => ?_)
  · refine CR (Mi rfl (S_bin rfl rfl (ev_sub ..) (S_conv rfl (e_ci ty_ki_3 ty_un_5) (Ai rfl (Sn (WP_ret ?_))))))
    with_reducible repeat first | apply Exit.sr | apply Exit.br | apply Exit.jr
    refine C_ret (fn := Tryz.f194) rfl (.tmp (v := .I (IntKind.wrap .i64 (IntKind.wrap .u8 (p0 - (48 : Int))))) rfl .nil) ?_
    exact ⟨_, _, (.refl _), ok.wh, _, F_some hF, rfl, rfl⟩
  · refine CR (Mi rfl (S_bin rfl rfl (ev_geq ..) (Mb rfl ?_)))
    refine S_two (b := (decide ((97 : Int) ≤ p0))) 3 19 (.bool ((decide ((97 : Int) ≤ p0)) && (decide (p0 ≤ (102 : Int))))) (fun hb3 => ?_) (fun hb3 => ?_) ?_
    · refine Sx rfl rfl hb3 (Mi rfl (Sn (Sx rfl rfl hb3 (S_bin rfl rfl (ev_leq ..) (Sn (S_pickT (v := .bool _) rfl hb3 rfl (Sn (.hd (and_t hb3) ?_))))))))
      repeat first | with_reducible exact .refl _ | refine .add ?_ rfl | exact .refl _
    · refine So rfl rfl hb3 (So rfl rfl hb3 (S_pickF (v := .bool _) rfl hb3 rfl (Sn (.hd (and_f hb3) ?_))))
      repeat first | with_reducible exact .refl _ | refine .add ?_ rfl | exact .refl _
    refine Ab rfl (Sn ?_)
    refine C_if (b := ((decide ((97 : Int) ≤ p0)) && (decide (p0 ≤ (102 : Int))))) rfl hF (fun hb4 hF => ?_) (fun hb4 hF => ?_)
    · refine CR (Mi rfl (S_bin rfl rfl (ev_sub ..) (S_conv rfl (e_ci ty_ki_3 ty_un_5) (S_bin rfl rfl (ev_add ..) (Ai rfl (Sn (WP_ret ?_)))))))
      with_reducible repeat first | apply Exit.sr | apply Exit.br | apply Exit.jr
      refine C_ret (fn := Tryz.f194) rfl (.tmp (v := .I (IntKind.wrap .i64 ((IntKind.wrap .i64 (IntKind.wrap .u8 (p0 - (97 : Int)))) + (10 : Int)))) rfl .nil) ?_
      exact ⟨_, _, (.refl _), ok.wh, _, F_some hF, rfl, rfl⟩
    · refine CR (Mi rfl (S_bin rfl rfl (ev_geq ..) (Mb rfl ?_)))
      refine S_two (b := (decide ((65 : Int) ≤ p0))) 3 30 (.bool ((decide ((65 : Int) ≤ p0)) && (decide (p0 ≤ (70 : Int))))) (fun hb5 => ?_) (fun hb5 => ?_) ?_
      · refine Sx rfl rfl hb5 (Mi rfl (Sn (Sx rfl rfl hb5 (S_bin rfl rfl (ev_leq ..) (Sn (S_pickT (v := .bool _) rfl hb5 rfl (Sn (.hd (and_t hb5) ?_))))))))
        repeat first | with_reducible exact .refl _ | refine .add ?_ rfl | exact .refl _
      · refine So rfl rfl hb5 (So rfl rfl hb5 (S_pickF (v := .bool _) rfl hb5 rfl (Sn (.hd (and_f hb5) ?_))))
        repeat first | with_reducible exact .refl _ | refine .add ?_ rfl | exact .refl _
      refine Ab rfl (Sn ?_)
      refine C_if (b := ((decide ((65 : Int) ≤ p0)) && (decide (p0 ≤ (70 : Int))))) rfl hF (fun hb6 hF => ?_) (fun hb6 hF => ?_)
      · refine CR (Mi rfl (S_bin rfl rfl (ev_sub ..) (S_conv rfl (e_ci ty_ki_3 ty_un_5) (S_bin rfl rfl (ev_add ..) (Ai rfl (Sn (WP_ret ?_)))))))
        with_reducible repeat first | apply Exit.sr | apply Exit.br | apply Exit.jr
        refine C_ret (fn := Tryz.f194) rfl (.tmp (v := .I (IntKind.wrap .i64 ((IntKind.wrap .i64 (IntKind.wrap .u8 (p0 - (65 : Int)))) + (10 : Int)))) rfl .nil) ?_
        exact ⟨_, _, (.refl _), ok.wh, _, F_some hF, rfl, rfl⟩
      · refine WP_skip (CR (Ai rfl (Sn (WP_ret ?_))))
        with_reducible repeat first | apply Exit.sr | apply Exit.br | apply Exit.jr
        refine C_ret (fn := Tryz.f194) rfl (.tmp (v := .I 99) rfl .nil) ?_
        exact ⟨_, _, (.refl _), ok.wh, _, F_some hF, rfl, rfl⟩
theorem F_refer_digit_ok {β : Type} {f : Int → Option β} {G : β → Prop} {R : D → Heap → Prop} {p0 : Int} (h : Heap) (hF : OptP ((F_refer_digit p0).bind f) G) (hk : ∀ r, F_refer_digit p0 = some r → OptP (f r) G → R (.I r) h) : CallsA Tryz.prog 194 [.int .u8 p0] h R := by
  obtain ⟨r0, hr, hF⟩ := F_bind hF
  refine (F_refer_digit_w (G := fun r => r = r0) p0 h ⟨r0, hr, rfl⟩).mono ?_
  rintro _ _ ⟨r, rfl, rfl, rfl⟩
  exact hk _ hr hF
theorem F_refer_meant_w (p0 : LB) {G : Int × Int → Prop} (h : Heap) (hF : OptP (F_refer_meant p0) G) : CallsA Tryz.prog 192 [.str p0] h fun d h' => ∃ r, G r ∧ d = .tup [.int .i32 r.1, .I r.2] ∧ h' = h := by
  refine CallsA.ret (C_body Tryz.func192 rfl en_192 Tryz.ntmps192 rfl (fun ok => ?_))
  rw [F_refer_meant] at hF
  refine CR (Ai rfl (Ai rfl (Sn (C_seq (CR (Ms rfl (Sn (WP_block (CR (S_bin rfl rfl e_seql (Ab rfl (Sn ?_))))))))))))
  refine C_if (b := (p0 == ([108, 116] : LB))) rfl hF (fun hb1 hF => ?_) (fun hb1 hF => ?_)
  · refine CR (Ai rfl (Ai rfl (Sn (WP_ret ?_))))
    with_reducible repeat first | apply Exit.sr | apply Exit.br | apply Exit.jr
    refine C_ret (fn := Tryz.f192) rfl (.tmp (v := .int .i32 (60 : Int)) rfl (.tmp (v := .I 0) rfl .nil)) ?_
    exact ⟨_, _, (.refl _), ok.wh, _, F_some hF, rfl, rfl⟩
  · refine CR (S_bin rfl rfl e_seql (Ab rfl (Sn ?_)))
    refine C_if (b := (p0 == ([103, 116] : LB))) rfl hF (fun hb2 hF => ?_) (fun hb2 hF => ?_)
    · refine CR (Ai rfl (Ai rfl (Sn (WP_ret ?_))))
      with_reducible repeat first | apply Exit.sr | apply Exit.br | apply Exit.jr
      refine C_ret (fn := Tryz.f192) rfl (.tmp (v := .int .i32 (62 : Int)) rfl (.tmp (v := .I 0) rfl .nil)) ?_
      exact ⟨_, _, (.refl _), ok.wh, _, F_some hF, rfl, rfl⟩
    · refine CR (S_bin rfl rfl e_seql (Ab rfl (Sn ?_)))
      refine C_if (b := (p0 == ([97, 109, 112] : LB))) rfl hF (fun hb3 hF => ?_) (fun hb3 hF => ?_)
      · refine CR (Ai rfl (Ai rfl (Sn (WP_ret ?_))))
        with_reducible repeat first | apply Exit.sr | apply Exit.br | apply Exit.jr
        refine C_ret (fn := Tryz.f192) rfl (.tmp (v := .int .i32 (38 : Int)) rfl (.tmp (v := .I 0) rfl .nil)) ?_
        exact ⟨_, _, (.refl _), ok.wh, _, F_some hF, rfl, rfl⟩
      · refine CR (S_bin rfl rfl e_seql (Ab rfl (Sn ?_)))
        refine C_if (b := (p0 == ([97, 112, 111, 115] : LB))) rfl hF (fun hb4 hF => ?_) (fun hb4 hF => ?_)
        · refine CR (Ai rfl (Ai rfl (Sn (WP_ret ?_))))
          with_reducible repeat first | apply Exit.sr | apply Exit.br | apply Exit.jr
          refine C_ret (fn := Tryz.f192) rfl (.tmp (v := .int .i32 (39 : Int)) rfl (.tmp (v := .I 0) rfl .nil)) ?_
          exact ⟨_, _, (.refl _), ok.wh, _, F_some hF, rfl, rfl⟩
        · refine CR (S_bin rfl rfl e_seql (Ab rfl (Sn ?_)))
          refine C_if (b := (p0 == ([113, 117, 111, 116] : LB))) rfl hF (fun hb5 hF => ?_) (fun hb5 hF => ?_)
          · refine CR (Ai rfl (Ai rfl (Sn (WP_ret ?_))))
            with_reducible repeat first | apply Exit.sr | apply Exit.br | apply Exit.jr
            refine C_ret (fn := Tryz.f192) rfl (.tmp (v := .int .i32 (34 : Int)) rfl (.tmp (v := .I 0) rfl .nil)) ?_
            exact ⟨_, _, (.refl _), ok.wh, _, F_some hF, rfl, rfl⟩
          · refine WP_skip (CR (Ms rfl (S_call (F_strings_CutPrefix_ok _ hF fun x6 _ hF => (S_m (v := .tup _) rfl (S_ext rfl rfl (S_ext rfl rfl (S_a (v := .str _) rfl (Ab rfl (Sn (CR (Ai rfl (Sn ?_)))))))))) (.refl _))))
            refine C_join hF (fun (v : LB × Int) s' => match v with | (a9, a10) => OK h [] ∧ WS s' ⟨mkSl 67 [(4, .str a9), (5, .bool x6.2), (6, .I a10)], Hp h []⟩) (fun J11 hF => ?_) ?_
            · refine CR (Ms rfl (S_call (F_strings_CutPrefix_ok _ hF fun x12 _ hF => (S_m (v := .tup _) rfl (S_ext rfl rfl (S_ext rfl rfl (S_a (v := .str _) rfl (Ab rfl (Sn (CR (Mb rfl (Sn ?_)))))))))) (.refl _)))
              refine C_if (b := x12.2) rfl hF (fun hb13 hF => ?_) (fun hb13 hF => ?_)
              · refine C_reg (mdl []) (Ms rfl (S_a (v := .str _) rfl (Ai rfl (Sn ?_))))
                exact ⟨(x12.1, (16 : Int)), hF, ok, WS.mk' (.k (.k (.k .nil))) ok (.refl _)⟩
              · refine WP_skip ?_
                exact ⟨(x6.1, (10 : Int)), hF, ok, WS.mk' (.k (.k (.k .nil))) ok (.refl _)⟩
            · rintro ⟨a9, a10⟩ s' hF ⟨ok, hws⟩
              refine WP_ws hws ?_
              clear hws s'
              refine C_seq (CR (Mb rfl (S_un rfl (ev_not _) (Mb rfl ?_))))
              refine S_two (b := (!x6.2)) 3 41 (.bool ((!x6.2) || (a9 == nB))) (fun hb14 => ?_) (fun hb14 => ?_) ?_
              · refine So rfl rfl hb14 (So rfl rfl hb14 (S_pickT (v := .bool _) rfl hb14 rfl (Sn (.hd (or_t hb14) ?_))))
                repeat first | with_reducible exact .refl _ | refine .add ?_ rfl | exact .refl _
              · refine Sx rfl rfl hb14 (Ms rfl (Sn (Sx rfl rfl hb14 (S_bin rfl rfl e_seql (Sn (S_pickF (v := .bool _) rfl hb14 rfl (Sn (.hd (or_f hb14) ?_))))))))
                repeat first | with_reducible exact .refl _ | refine .add ?_ rfl | exact .refl _
              refine Sn ?_
              refine C_if (b := ((!x6.2) || (a9 == nB))) rfl hF (fun hb15 hF => ?_) (fun hb15 hF => ?_)
              · refine CR (Ai rfl (Ai rfl (Sn (WP_ret ?_))))
                with_reducible repeat first | apply Exit.sr | apply Exit.br | apply Exit.jr
                refine C_ret (fn := Tryz.f192) rfl (.tmp (v := .int .i32 (0 : Int)) rfl (.tmp (v := .I 22) rfl .nil)) ?_
                exact ⟨_, _, (.refl _), ok.wh, _, F_some hF, rfl, rfl⟩
              · refine WP_skip (CR (Ai rfl (Sn ?_)))
                refine C_join hF (fun (a22 : Int) s' => OK h [] ∧ WS s' ⟨mkSl 67 [(9, .I a22)], Hp h []⟩) (fun J23 hF => ?_) ?_
                · refine CR (Ms rfl (S_byt0 rfl rfl ty_sl_22 ty_st_9 ty_ki_5 (S_lenL rfl ty_sl_22 (Mi rfl (Sn (WP_block ?_))))))
                  refine C_loop (σ := Int × Int) hF (fun (v : Int × Int) s' => match v with | (a24, a25) => OK h [] ∧ WS s' ⟨mkSl 67 [(6, .I a10), (9, .I a24), (43, .sl 1 (List.map c_u8 a9) 0), (44, .I (a9.length : Int)), (45, .I a25)], Hp h []⟩) ?_ ?_
                  · exact ⟨ok, WS.mk' (.k (.k (.k (.k (.k .nil))))) ok (.refl _)⟩
                  · rintro G26 hG27 rec28 ⟨a24, a25⟩ s' ih29 hF ⟨ok, hws⟩
                    refine WP_ws hws ?_
                    clear hws s'
                    rw [F_refer_meant_l0] at hF
                    refine CR (S_bin rfl rfl (ev_lss ..) (Sn (C_seq ?_)))
                    refine C_if (b := (decide (a25 < (a9.length : Int)))) rfl hF (fun hb30 hF => ?_) (fun hb30 hF => ?_)
                    · refine WP_skip (C_seq (WP_block (CR (S_ix rfl rfl ty_sl_22 ty_sz_5 hF (fun x31 _ hF => S_ldQ rfl (p_one ty_ag_5 ty_sz_5 rfl) (Ai rfl (Sn (CR (Mi rfl (S_call (F_refer_digit_ok _ hF fun x32 _ hF => (Ai rfl (Sn (C_seq (CR (Mi rfl (Mi rfl (S_bin rfl rfl (ev_geq ..) (Sn ?_))))))))) (.refl _)))))))))))
                      refine C_if (b := (decide (a10 ≤ x32))) rfl hF (fun hb33 hF => ?_) (fun hb33 hF => ?_)
                      · refine CR (Ai rfl (Ai rfl (Sn (WP_ret ?_))))
                        replace hF := hG27 _ (F_some hF)
                        with_reducible repeat first | apply Exit.sr | apply Exit.br | apply Exit.jr
                        refine C_ret (fn := Tryz.f192) rfl (.tmp (v := .int .i32 (0 : Int)) rfl (.tmp (v := .I 22) rfl .nil)) ?_
                        exact ⟨_, _, (.refl _), ok.wh, _, F_some hF, rfl, rfl⟩
                      · refine WP_skip (C_reg (mdl []) (Mi rfl (Mi rfl (S_bin rfl rfl (ev_mul ..) (Mi rfl (S_bin rfl rfl (ev_add ..) (S_min rfl rfl (Ai rfl (Sn (C_reg (mdl []) (S_bin rfl rfl (ev_add ..) (Mi rfl (Sn (ih29 ((if (1114112 : Int) < (IntKind.wrap .i64 ((IntKind.wrap .i64 (a24 * a10)) + x32)) then (1114112 : Int) else (IntKind.wrap .i64 ((IntKind.wrap .i64 (a24 * a10)) + x32))), (IntKind.wrap .i64 (a25 + (1 : Int)))) _ hF ?_))))))))))))))
                        exact ⟨ok, WS.mk' (.k (.k (.k (.k (.k .nil))))) ok (.refl _)⟩
                    · refine WP_exit ?_
                      simp only [Exit.sel, Exit.blk, Exit.jmp, if_true, if_false, reduceIte, Nat.reduceEqDiff, Nat.succ_ne_zero, Nat.zero_ne_one, Nat.one_ne_zero]
                      replace hF := hG27 _ (F_some hF)
                      exact ⟨a24, hF, ok, WS.mk' (.k .nil) ok (.refl _)⟩
                · rintro a22 s' hF ⟨ok, hws⟩
                  refine WP_ws hws ?_
                  clear hws s'
                  refine C_seq (CR (Mi rfl (S_conv rfl (e_ci ty_ki_21 ty_un_3) (S_call (F_char_IsChar_ok _ hF fun x34 _ hF => (S_un rfl (ev_not _) (Sn ?_))) (.refl _)))))
                  refine C_if (b := (!x34)) rfl hF (fun hb35 hF => ?_) (fun hb35 hF => ?_)
                  · refine CR (Ai rfl (Ai rfl (Sn (WP_ret ?_))))
                    with_reducible repeat first | apply Exit.sr | apply Exit.br | apply Exit.jr
                    refine C_ret (fn := Tryz.f192) rfl (.tmp (v := .int .i32 (0 : Int)) rfl (.tmp (v := .I 21) rfl .nil)) ?_
                    exact ⟨_, _, (.refl _), ok.wh, _, F_some hF, rfl, rfl⟩
                  · refine WP_skip (CR (Mi rfl (S_conv rfl (e_ci ty_ki_21 ty_un_3) (Ai rfl (Ai rfl (Sn (WP_ret ?_)))))))
                    with_reducible repeat first | apply Exit.sr | apply Exit.br | apply Exit.jr
                    refine C_ret (fn := Tryz.f192) rfl (.tmp (v := .int .i32 (IntKind.wrap .i32 a22)) rfl (.tmp (v := .I 0) rfl .nil)) ?_
                    exact ⟨_, _, (.refl _), ok.wh, _, F_some hF, rfl, rfl⟩
theorem F_refer_meant_ok {β : Type} {f : Int × Int → Option β} {G : β → Prop} {R : D → Heap → Prop} {p0 : LB} (h : Heap) (hF : OptP ((F_refer_meant p0).bind f) G) (hk : ∀ r, F_refer_meant p0 = some r → OptP (f r) G → R (.tup [.int .i32 r.1, .I r.2]) h) : CallsA Tryz.prog 192 [.str p0] h R := by
  obtain ⟨r0, hr, hF⟩ := F_bind hF
  refine (F_refer_meant_w (G := fun r => r = r0) p0 h ⟨r0, hr, rfl⟩).mono ?_
  rintro _ _ ⟨r, rfl, rfl, rfl⟩
  exact hk _ hr hF
theorem F_refer_Expand_w (p0 : LB) (p1 : Int) {G : Int × Int × Int → Prop} (h : Heap) (hF : OptP (F_refer_Expand p0 p1) G) : CallsA Tryz.prog 183 [.sl 1 (List.map c_u8 p0) 0, .I p1] h fun d h' => ∃ r, G r ∧ d = .tup [.int .i32 r.1, .I r.2.1, .I r.2.2] ∧ h' = h := by
  refine CallsA.ret (C_body Tryz.func183 rfl en_183 Tryz.ntmps183 rfl (fun ok => ?_))
  rw [F_refer_Expand] at hF
  refine CR (Ai rfl (Ai rfl (Ai rfl (Sn (C_seq (CR (Mi rfl (S_bin rfl rfl (ev_lss ..) (Mb rfl ?_)))))))))
  refine S_two (b := (decide (p1 < (0 : Int)))) 5 17 (.bool ((decide (p1 < (0 : Int))) || (decide ((p0.length : Int) ≤ p1)))) (fun hb1 => ?_) (fun hb1 => ?_) ?_
  · refine So rfl rfl hb1 (So rfl rfl hb1 (So rfl rfl hb1 (So rfl rfl hb1 (S_pickT (v := .bool _) rfl hb1 rfl (Sn (.hd (or_t hb1) ?_))))))
    repeat first | with_reducible exact .refl _ | refine .add ?_ rfl | exact .refl _
  · refine Sx rfl rfl hb1 (Mi rfl (Sn (Sx rfl rfl hb1 (Ml rfl (Sn (Sx rfl rfl hb1 (S_lenL rfl ty_sl_22 (Sn (Sx rfl rfl hb1 (S_bin rfl rfl (ev_geq ..) (Sn (S_pickF (v := .bool _) rfl hb1 rfl (Sn (.hd (or_f hb1) ?_))))))))))))))
    repeat first | with_reducible exact .refl _ | refine .add ?_ rfl | exact .refl _
  refine Mb rfl ?_
  refine S_twoJ 6 24 hF (fun J3 hb2 hF => ?_) (fun J3 hb2 hF => ?_) (fun v4 hF => ?_)
  · refine So rfl rfl hb2 (So rfl rfl hb2 (So rfl rfl hb2 (So rfl rfl hb2 (So rfl rfl hb2 (S_pickT (v := .bool _) rfl hb2 rfl (Sn ?_))))))
    refine ⟨_, hF, .hd (.refl _) ?_⟩
    repeat first | with_reducible exact .refl _ | refine .add ?_ rfl | exact .refl _
  · refine Sx rfl rfl hb2 (Ml rfl (Sn (Sx rfl rfl hb2 (Mi rfl (Sn (Sx rfl rfl hb2 (S_ix rfl rfl ty_sl_22 ty_sz_5 hF (fun x5 _ hF => Sn (Sx rfl rfl hb2 (S_ldQ rfl (p_one ty_ag_5 ty_sz_5 rfl) (Sn (Sx rfl rfl hb2 (S_bin rfl rfl (ev_neq ..) (Sn (S_pickF (v := .bool _) rfl hb2 rfl (Sn ?_))))))))))))))))
    refine ⟨_, hF, .hd (.refl _) ?_⟩
    repeat first | with_reducible exact .refl _ | refine .add ?_ rfl | exact .refl _
  · refine Sn ?_
    refine C_if (b := v4) rfl hF (fun hb6 hF => ?_) (fun hb6 hF => ?_)
    · refine CR (Ai rfl (Ai rfl (Ai rfl (Sn (WP_ret ?_)))))
      with_reducible repeat first | apply Exit.sr | apply Exit.br | apply Exit.jr
      refine C_ret (fn := Tryz.f183) rfl (.tmp (v := .int .i32 (0 : Int)) rfl (.tmp (v := .I 0) rfl (.tmp (v := .I 1) rfl .nil))) ?_
      exact ⟨_, _, (.refl _), ok.wh, _, F_some hF, rfl, rfl⟩
    · refine WP_skip (CR (Ml rfl (Mi rfl (S_slL rfl ty_sl_22 ty_sz_5 (bd_at rfl) bd_len hF (fun x7 _ hF => S_call (L_bIndexByte_ok _ hF fun x8 _ hF => (Ai rfl (Sn (C_seq (CR (Mi rfl (S_bin rfl rfl (ev_lss ..) (Sn ?_)))))))) (.refl _))))))
      refine C_if (b := (decide (x8 < (0 : Int)))) rfl hF (fun hb9 hF => ?_) (fun hb9 hF => ?_)
      · refine CR (Ai rfl (Ai rfl (Ai rfl (Sn (WP_ret ?_)))))
        with_reducible repeat first | apply Exit.sr | apply Exit.br | apply Exit.jr
        refine C_ret (fn := Tryz.f183) rfl (.tmp (v := .int .i32 (0 : Int)) rfl (.tmp (v := .I 0) rfl (.tmp (v := .I 22) rfl .nil))) ?_
        exact ⟨_, _, (.refl _), ok.wh, _, F_some hF, rfl, rfl⟩
      · refine WP_skip (CR (Ml rfl (Mi rfl (S_bin rfl rfl (ev_add ..) (Mi rfl (Mi rfl (S_bin rfl rfl (ev_add ..) (S_slL rfl ty_sl_22 ty_sz_5 (bd_at rfl) (bd_at rfl) hF (fun x10 _ hF => S_conv rfl (e_cbs ty_sl_22 ty_ki_5 ty_st_9) (S_call (F_refer_meant_ok _ hF fun x11 _ hF => (S_m (v := .tup _) rfl (S_ext rfl rfl (S_ext rfl rfl (Ai rfl (Ai rfl (Sn (C_seq (CR (Mi rfl (S_bin rfl rfl (ev_neq ..) (Sn ?_)))))))))))) (.refl _)))))))))))
        refine C_if (b := (x11.2 != (0 : Int))) rfl hF (fun hb12 hF => ?_) (fun hb12 hF => ?_)
        · refine CR (Mi rfl (Ai rfl (Ai rfl (Ai rfl (Sn (WP_ret ?_))))))
          with_reducible repeat first | apply Exit.sr | apply Exit.br | apply Exit.jr
          refine C_ret (fn := Tryz.f183) rfl (.tmp (v := .int .i32 (0 : Int)) rfl (.tmp (v := .I 0) rfl (.tmp (v := .I x11.2) rfl .nil))) ?_
          exact ⟨_, _, (.refl _), ok.wh, _, F_some hF, rfl, rfl⟩
        · refine WP_skip (CR (Mi rfl (Mi rfl (Mi rfl (S_bin rfl rfl (ev_add ..) (S_bin rfl rfl (ev_add ..) (Ai rfl (Ai rfl (Ai rfl (Sn (WP_ret ?_)))))))))))
          with_reducible repeat first | apply Exit.sr | apply Exit.br | apply Exit.jr
          refine C_ret (fn := Tryz.f183) rfl (.tmp (v := .int .i32 x11.1) rfl (.tmp (v := .I (IntKind.wrap .i64 ((IntKind.wrap .i64 (p1 + x8)) + (1 : Int)))) rfl (.tmp (v := .I 0) rfl .nil))) ?_
          exact ⟨_, _, (.refl _), ok.wh, _, F_some hF, rfl, rfl⟩
theorem F_refer_Expand_ok {β : Type} {f : Int × Int × Int → Option β} {G : β → Prop} {R : D → Heap → Prop} {p0 : LB} {p1 : Int} (h : Heap) (hF : OptP ((F_refer_Expand p0 p1).bind f) G) (hk : ∀ r, F_refer_Expand p0 p1 = some r → OptP (f r) G → R (.tup [.int .i32 r.1, .I r.2.1, .I r.2.2]) h) : CallsA Tryz.prog 183 [.sl 1 (List.map c_u8 p0) 0, .I p1] h R := by
  obtain ⟨r0, hr, hF⟩ := F_bind hF
  refine (F_refer_Expand_w (G := fun r => r = r0) p0 p1 h ⟨r0, hr, rfl⟩).mono ?_
  rintro _ _ ⟨r, rfl, rfl, rfl⟩
  exact hk _ hr hF
theorem F_refer_read_w (p0 : LB) (p1 : Bool) {G : LB × Int × Int → Prop} (h : Heap) (hF : OptP (F_refer_read p0 p1) G) : CallsA Tryz.prog 164 [.sl 1 (List.map c_u8 p0) 0, .bool p1] h fun d h' => ∃ r, G r ∧ d = .tup [.str r.1, .I r.2.1, .I r.2.2] ∧ h' = h := by
  refine CallsA.ret (C_body Tryz.func164 rfl en_164 Tryz.ntmps164 rfl (fun ok => ?_))
  rw [F_refer_read] at hF
  refine CR (S_a (v := .str nB) rfl (Ai rfl (Ai rfl (Sn (CR (S_a (v := .snil) rfl (S_ghost 7 1 ok rfl rfl ?_)))))))
  intro r1 hr1 ok
  refine Sn ?_
  refine C_join hF (fun (a52 : LB) s' => ∃ g53 : Nat, g53 ≠ 0 ∧ OK h [(g53, .room)] ∧ WS s' ⟨mkSl 79 [(7, .sl 1 (List.map c_u8 a52) g53)], Hp h [(g53, .room)]⟩) (fun J54 hF => ?_) ?_
  · refine CR (Ai rfl (Sn (WP_block ?_)))
    refine C_loop (σ := LB × Int) hF (fun (v : LB × Int) s' => match v with | (a55, a57) => ∃ g56 : Nat, g56 ≠ 0 ∧ OK h [(g56, .room)] ∧ WS s' ⟨mkSl 79 [(0, .sl 1 (List.map c_u8 p0) 0), (1, .bool p1), (7, .sl 1 (List.map c_u8 a55) g56), (8, .I a57)], Hp h [(g56, .room)]⟩) ?_ ?_
    · exact ⟨r1, hr1, ok, WS.mk' (.k (.k (.k (.k .nil)))) ok (.refl _)⟩
    · rintro G58 hG59 rec60 ⟨a55, a57⟩ s' ih61 hF ⟨g56, hg56, ok, hws⟩
      refine WP_ws hws ?_
      clear hws s'
      rw [F_refer_read_l0] at hF
      refine C_seq (CR (Mi rfl (Ml rfl (S_lenL rfl ty_sl_22 (S_bin rfl rfl (ev_lss ..) (Sn ?_))))))
      refine C_if (b := (decide (a57 < (p0.length : Int)))) rfl hF (fun hb62 hF => ?_) (fun hb62 hF => ?_)
      · refine WP_skip (WP_block (CR (Ml rfl (Mi rfl (S_call (F_char_Next_ok _ hF fun x63 _ hF => (S_m (v := .tup _) rfl (S_ext rfl rfl (S_ext rfl rfl (S_ext rfl rfl (Ai rfl (Ai rfl (Ai rfl (Sn ?_))))))))) (.refl _))))))
        refine C_join hF (fun (v : Int × Int) s' => match v with | (a85, a86) => OK h [(g56, .room)] ∧ WS s' ⟨mkSl 79 [(0, .sl 1 (List.map c_u8 p0) 0), (1, .bool p1), (7, .sl 1 (List.map c_u8 a55) g56), (9, .int .i32 a85), (10, .I a86)], Hp h [(g56, .room)]⟩) (fun J87 hF => ?_) ?_
        · refine WP_block (CR (Mi rfl (S_bin rfl rfl (ev_neq ..) (Ab rfl (Sn ?_)))))
          refine C_if (b := (x63.2.2 != (0 : Int))) rfl hF (fun hb88 hF => ?_) (fun hb88 hF => ?_)
          · refine CR (Mi rfl (Mi rfl (S_a (v := .str nB) rfl (Ai rfl (Ai rfl (Sn (WP_ret ?_)))))))
            replace hF := hG59 _ (F_some hF)
            with_reducible repeat first | apply Exit.sr | apply Exit.br | apply Exit.jr
            refine C_ret (fn := Tryz.f164) rfl (.tmp (v := .str nB) rfl (.tmp (v := .I a57) rfl (.tmp (v := .I x63.2.2) rfl .nil))) ?_
            exact ⟨_, _, (.refl _), ok.wh, _, F_some hF, rfl, rfl⟩
          · refine C_seq (C_reg (mdl [(38, 5), (39, 5)]) (Mi rfl (S_bin rfl rfl (ev_eql ..) (Mb rfl ?_))))
            refine S_twoJ 11 42 hF (fun J90 hb89 hF => ?_) (fun J90 hb89 hF => ?_) (fun v91 hF => ?_)
            · refine So rfl rfl hb89 (So rfl rfl hb89 (So rfl rfl hb89 (S_off2 rfl rfl (S_offD (S_off2 rfl rfl (S_offD (S_off2 rfl rfl (S_offD (S_off2 rfl rfl (S_offD (S_off2 rfl rfl (S_offD (S_off2 rfl rfl (S_offD (So rfl rfl hb89 (S_pickT (v := .bool _) rfl hb89 rfl (Sn ?_)))))))))))))))))
              refine ⟨_, hF, .hd (.refl _) ?_⟩
              repeat first | with_reducible exact .refl _ | refine .add ?_ rfl | exact .refl _
            · refine Sx rfl rfl hb89 (Mb rfl (Sn (Sx rfl rfl hb89 (S_un rfl (ev_not _) (Sn (Sx rfl rfl hb89 (Mb rfl (Sn ?_))))))))
              refine S_twoJ 7 41 hF (fun J93 hb92 hF => ?_) (fun J93 hb92 hF => ?_) (fun v94 hF => ?_)
              · refine Sx rfl rfl hb92 (Ml rfl (Sn (Sx rfl rfl hb92 (Mi rfl (Sn (Sx rfl rfl hb92 (S_slL rfl ty_sl_22 ty_sz_5 (bd_at rfl) bd_len hF (fun x95 _ hF => Sn (Sx rfl rfl hb92 ?_)))))))))
                refine S_lit5 (cs := [.int .u8 93, .int .u8 93, .int .u8 62]) ok rfl ty_el_22 rfl (by kernel_rfl) ?_
                intro i96 hi96 ok
                refine Sn (Sx rfl rfl hb92 ?_)
                refine S_cvt (v := .sl 1 (List.map c_u8 ([93, 93, 62] : LB)) 0) (by kernel_rfl) 0 ok rfl rfl hi96 rfl ty_sl_22 ty_ki_5 rfl rfl (fun ok => ?_)
                refine Sn (Sx rfl rfl hb92 (S_call (F_bytes_HasPrefix_ok _ hF fun x98 _ hF => (Sn (Sx rfl rfl hb89 (S_pickT (v := .bool _) rfl hb92 rfl (Sn (Sn ?_)))))) (.refl _)))
                refine ⟨_, hF, .hd (.refl _) ?_⟩
                repeat first | with_reducible exact .refl _ | refine .add ?_ rfl | exact .refl _
              · refine So rfl rfl hb92 (So rfl rfl hb92 (So rfl rfl hb92 (So rfl rfl hb92 (So rfl rfl hb92 (So rfl rfl hb92 (Sx rfl rfl hb89 (S_pickF (v := .bool _) rfl hb92 rfl (Sn (Sn ?_)))))))))
                refine ⟨_, hF, .hd (.refl _) ?_⟩
                repeat first | with_reducible exact .refl _ | refine .add ?_ rfl | exact .refl _
              · refine S_pickF (v := .bool _) rfl hb89 rfl (Sn ?_)
                refine ⟨_, hF, .hd (.refl _) ?_⟩
                repeat first | with_reducible exact .refl _ | refine .add ?_ rfl | exact .refl _
            · refine Ab rfl (Sn ?_)
              refine C_if (b := v91) rfl hF (fun hb99 hF => ?_) (fun hb99 hF => ?_)
              · refine CR (Mi rfl (S_a (v := .str nB) rfl (Ai rfl (Ai rfl (Sn (WP_ret ?_))))))
                replace hF := hG59 _ (F_some hF)
                with_reducible repeat first | apply Exit.sr | apply Exit.br | apply Exit.jr
                refine C_ret (fn := Tryz.f164) rfl (.tmp (v := .str nB) rfl (.tmp (v := .I a57) rfl (.tmp (v := .I 23) rfl .nil))) ?_
                exact ⟨_, _, (.refl _), ok.wh, _, F_some hF, rfl, rfl⟩
              · refine CR (Mi rfl (S_bin rfl rfl (ev_eql ..) (Ab rfl (Sn ?_))))
                refine C_if (b := (x63.1 == (38 : Int))) rfl hF (fun hb100 hF => ?_) (fun hb100 hF => ?_)
                · refine CR (Ml rfl (Mi rfl (S_call (F_refer_Expand_ok _ hF fun x101 _ hF => (S_m (v := .tup _) rfl (S_ext rfl rfl (S_ext rfl rfl (S_ext rfl rfl (Ai rfl (Ai rfl (Ai rfl (Sn (CR (Mi rfl (S_bin rfl rfl (ev_neq ..) (Sn ?_))))))))))))) (.refl _))))
                  refine C_if (b := (x101.2.2 != (0 : Int))) rfl hF (fun hb102 hF => ?_) (fun hb102 hF => ?_)
                  · refine CR (Mi rfl (Mi rfl (S_a (v := .str nB) rfl (Ai rfl (Ai rfl (Sn (WP_ret ?_)))))))
                    replace hF := hG59 _ (F_some hF)
                    with_reducible repeat first | apply Exit.sr | apply Exit.br | apply Exit.jr
                    refine C_ret (fn := Tryz.f164) rfl (.tmp (v := .str nB) rfl (.tmp (v := .I a57) rfl (.tmp (v := .I x101.2.2) rfl .nil))) ?_
                    exact ⟨_, _, (.refl _), ok.wh, _, F_some hF, rfl, rfl⟩
                  · refine WP_skip ?_
                    exact ⟨(x101.1, x101.2.1), hF, ok, WS.mk' (.k (.k (.k (.k (.k .nil))))) ok (.refl _)⟩
                · refine CR (Mb rfl (Mb rfl ?_))
                  refine S_two (b := p1) 11 71 (.bool (p1 && (((x63.1 == (9 : Int)) || (x63.1 == (10 : Int))) || (x63.1 == (13 : Int))))) (fun hb103 => ?_) (fun hb103 => ?_) ?_
                  · refine Sx rfl rfl hb103 (Mi rfl (Sn (Sx rfl rfl hb103 (S_bin rfl rfl (ev_eql ..) (Sn (Sx rfl rfl hb103 (Mb rfl (Sn ?_))))))))
                    refine S_two (b := (x63.1 == (9 : Int))) 3 66 (.bool ((x63.1 == (9 : Int)) || (x63.1 == (10 : Int)))) (fun hb106 => ?_) (fun hb106 => ?_) ?_
                    · refine So rfl rfl hb106 (So rfl rfl hb106 (Sx rfl rfl hb103 (S_pickT (v := .bool _) rfl hb106 rfl (Sn (Sn (.hd (or_t hb106) ?_))))))
                      repeat first | with_reducible exact .refl _ | refine .add ?_ rfl | exact .refl _
                    · refine Sx rfl rfl hb106 (Mi rfl (Sn (Sx rfl rfl hb106 (S_bin rfl rfl (ev_eql ..) (Sn (Sx rfl rfl hb103 (S_pickF (v := .bool _) rfl hb106 rfl (Sn (Sn (.hd (or_f hb106) ?_))))))))))
                      repeat first | with_reducible exact .refl _ | refine .add ?_ rfl | exact .refl _
                    refine Sx rfl rfl hb103 (Mb rfl (Sn ?_))
                    refine S_two (b := ((x63.1 == (9 : Int)) || (x63.1 == (10 : Int)))) 3 70 (.bool (((x63.1 == (9 : Int)) || (x63.1 == (10 : Int))) || (x63.1 == (13 : Int)))) (fun hb107 => ?_) (fun hb107 => ?_) ?_
                    · refine So rfl rfl hb107 (So rfl rfl hb107 (Sx rfl rfl hb103 (S_pickT (v := .bool _) rfl hb107 rfl (Sn (Sn (.hd (or_t hb107) ?_))))))
                      repeat first | with_reducible exact .refl _ | refine .add ?_ rfl | exact .refl _
                    · refine Sx rfl rfl hb107 (Mi rfl (Sn (Sx rfl rfl hb107 (S_bin rfl rfl (ev_eql ..) (Sn (Sx rfl rfl hb103 (S_pickF (v := .bool _) rfl hb107 rfl (Sn (Sn (.hd (or_f hb107) ?_))))))))))
                      repeat first | with_reducible exact .refl _ | refine .add ?_ rfl | exact .refl _
                    refine S_pickT (v := .bool _) rfl hb103 rfl (Sn (.hd (and_t hb103) ?_))
                    repeat first | with_reducible exact .refl _ | refine .add ?_ rfl | exact .refl _
                  · refine So rfl rfl hb103 (So rfl rfl hb103 (So rfl rfl hb103 (S_off2 rfl rfl (S_offD (S_off2 rfl rfl (S_offD (So rfl rfl hb103 (So rfl rfl hb103 (S_off2 rfl rfl (S_offD (S_off2 rfl rfl (S_offD (So rfl rfl hb103 (S_pickF (v := .bool _) rfl hb103 rfl (Sn (.hd (and_f hb103) ?_))))))))))))))))
                    repeat first | with_reducible exact .refl _ | refine .add ?_ rfl | exact .refl _
                  refine Ab rfl (Sn ?_)
                  refine C_if (b := (p1 && (((x63.1 == (9 : Int)) || (x63.1 == (10 : Int))) || (x63.1 == (13 : Int))))) rfl hF (fun hb108 hF => ?_) (fun hb108 hF => ?_)
                  · refine C_reg (mdl []) (Ai rfl (Sn ?_))
                    exact ⟨((32 : Int), x63.2.1), hF, ok, WS.mk' (.k (.k (.k (.k (.k .nil))))) ok (.refl _)⟩
                  · refine WP_skip ?_
                    exact ⟨(x63.1, x63.2.1), hF, ok, WS.mk' (.k (.k (.k (.k (.k .nil))))) ok (.refl _)⟩
        · rintro ⟨a85, a86⟩ s' hF ⟨ok, hws⟩
          refine WP_ws hws ?_
          clear hws s'
          refine C_seq (C_reg (mdl [(75, 2)]) (Ml rfl (Mi rfl (S_conv rfl (e_cr ty_ki_9 ty_fa_9 ty_st_9 ty_un_21) (S_appS (j := 0) ok rfl rfl rfl rfl hg56 ty_el_22 ty_ni_9 hF ?_)))))
          intro r109 hr109 ok hF
          refine S_a (v := .sl _ _ _) rfl (Sn (C_reg (mdl []) (Mi rfl (Ai rfl (Sn (ih61 ((a55 ++ (Utf8.encode a85).data.toList), a86) _ hF ?_))))))
          exact ⟨r109, hr109, ok, WS.mk' (.k (.k (.k (.k .nil)))) ok (.refl _)⟩
      · refine WP_exit ?_
        simp only [Exit.sel, Exit.blk, Exit.jmp, if_true, if_false, reduceIte, Nat.reduceEqDiff, Nat.succ_ne_zero, Nat.zero_ne_one, Nat.one_ne_zero]
        replace hF := hG59 _ (F_some hF)
        exact ⟨a55, hF, g56, hg56, ok, WS.mk' (.k .nil) ok (.refl _)⟩
  · rintro a52 s' hF ⟨g53, hg53, ok, hws⟩
    refine WP_ws hws ?_
    clear hws s'
    refine CR (Ml rfl (S_one 77 (v := .sl 1 (List.map c_u8 a52) 0) (.zero _ _ _) (S_conv rfl (e_cbs ty_sl_22 ty_ki_5 ty_st_9) (S_a (v := .str _) rfl (Ai rfl (Ai rfl (Sn (WP_ret ?_))))))))
    with_reducible repeat first | apply Exit.sr | apply Exit.br | apply Exit.jr
    refine C_ret (fn := Tryz.f164) rfl (.tmp (v := .str a52) rfl (.tmp (v := .I 0) rfl (.tmp (v := .I 0) rfl .nil))) ?_
    exact ⟨_, _, (.refl _), ok.wh, _, F_some hF, rfl, rfl⟩
theorem F_refer_read_ok {β : Type} {f : LB × Int × Int → Option β} {G : β → Prop} {R : D → Heap → Prop} {p0 : LB} {p1 : Bool} (h : Heap) (hF : OptP ((F_refer_read p0 p1).bind f) G) (hk : ∀ r, F_refer_read p0 p1 = some r → OptP (f r) G → R (.tup [.str r.1, .I r.2.1, .I r.2.2]) h) : CallsA Tryz.prog 164 [.sl 1 (List.map c_u8 p0) 0, .bool p1] h R := by
  obtain ⟨r0, hr, hF⟩ := F_bind hF
  refine (F_refer_read_w (G := fun r => r = r0) p0 p1 h ⟨r0, hr, rfl⟩).mono ?_
  rintro _ _ ⟨r, rfl, rfl, rfl⟩
  exact hk _ hr hF
theorem F_refer_ReadValue_w (p0 : LB) {G : LB × Int × Int → Prop} (h : Heap) (hF : OptP (F_refer_ReadValue p0) G) : CallsA Tryz.prog 123 [.sl 1 (List.map c_u8 p0) 0] h fun d h' => ∃ r, G r ∧ d = .tup [.str r.1, .I r.2.1, .I r.2.2] ∧ h' = h := by
  refine CallsA.ret (C_body Tryz.func123 rfl en_123 Tryz.ntmps123 rfl (fun ok => ?_))
  rw [F_refer_ReadValue] at hF
  refine CR (S_a (v := .str nB) rfl (Ai rfl (Ai rfl (Sn (CR (Ml rfl (S_call (F_refer_read_ok _ hF fun x1 _ hF => (S_ext rfl rfl (S_ext rfl rfl (S_ext rfl rfl (S_a (v := .str _) rfl (Ai rfl (Ai rfl (Sn (WP_ret ?_))))))))) (.refl _))))))))
  with_reducible repeat first | apply Exit.sr | apply Exit.br | apply Exit.jr
  refine C_ret (fn := Tryz.f123) rfl (.tmp (v := .str x1.1) rfl (.tmp (v := .I x1.2.1) rfl (.tmp (v := .I x1.2.2) rfl .nil))) ?_
  exact ⟨_, _, (.refl _), ok.wh, _, F_some hF, rfl, rfl⟩
theorem F_refer_ReadValue_ok {β : Type} {f : LB × Int × Int → Option β} {G : β → Prop} {R : D → Heap → Prop} {p0 : LB} (h : Heap) (hF : OptP ((F_refer_ReadValue p0).bind f) G) (hk : ∀ r, F_refer_ReadValue p0 = some r → OptP (f r) G → R (.tup [.str r.1, .I r.2.1, .I r.2.2]) h) : CallsA Tryz.prog 123 [.sl 1 (List.map c_u8 p0) 0] h R := by
  obtain ⟨r0, hr, hF⟩ := F_bind hF
  refine (F_refer_ReadValue_w (G := fun r => r = r0) p0 h ⟨r0, hr, rfl⟩).mono ?_
  rintro _ _ ⟨r, rfl, rfl, rfl⟩
  exact hk _ hr hF
theorem F_scan_scanner_tag_w (p0 : TS) (p1 : TK) (q0 : Nat) (q1 : Nat) (b1_3 : Nat) {G : Int × TS × TK → Prop} (h : Heap) (O : List (Nat × AObj)) (hq0 : q0 ≠ 0) (hq1 : q1 ≠ 0) (zb1_3 : b1_3 = 0 → p1.Pairs = []) (ok : OK h ((cSc q0 p0) :: (cTk q1 b1_3 p1) :: mo b1_3 cP p1.Pairs :: O)) (hF : OptP (F_scan_scanner_tag p0 p1) G) : CallsA Tryz.prog 84 [.ptr q0 0, .ptr q1 0] (Hp h ((cSc q0 p0) :: (cTk q1 b1_3 p1) :: mo b1_3 cP p1.Pairs :: O)) fun d h' => ∃ r, G r ∧ d = .I r.1 ∧ ∃ b1_3' : Nat, (b1_3' = 0 → r.2.2.Pairs = []) ∧ OK h ((cSc q0 r.2.1) :: (cTk q1 b1_3' r.2.2) :: mo b1_3' cP r.2.2.Pairs :: O) ∧ h' = Hp h ((cSc q0 r.2.1) :: (cTk q1 b1_3' r.2.2) :: mo b1_3' cP r.2.2.Pairs :: O) := by
  refine CallsA.ret (C_bodyO Tryz.func84 rfl en_84 Tryz.ntmps84 rfl ?_)
  rw [F_scan_scanner_tag] at hF
  refine CR (Ai rfl (Sn (WP_scope (JW_step (CR (Ai rfl (Sn (C_seq (C_reg (mdl [(6, 1)]) (S_all1 ok rfl ty_zc_161 ?_))))))))))
  intro i1 hi1 ok
  refine Sn (CR (S_a (v := .snil) rfl (S_one 7 (v := .sl 1 (List.map c_u8 nB) 0) (.nil _) (Sn (CR (Mp rfl (S_nilc (v := .ptr _ _) rfl rfl (S_faP rfl ty_fd_95_1 ty_sz_3 (S_ldP (j := 1) ok rfl rfl rfl hq0 (p_one (v := .I p0.at_) ty_ag_3 ty_sz_3 rfl) (S_bin rfl rfl (ev_add ..) (S_nilc (v := .ptr _ _) rfl rfl (S_faP rfl ty_fd_95_1 ty_sz_3 (S_st (j := 1) (cs' := [.sl 1 (List.map c_u8 p0.b) 0, .I (IntKind.wrap .i64 (p0.at_ + (1 : Int)))]) ok rfl rfl rfl hq0 rfl ty_sz_3 rfl rfl (fun ok => Sn (CR (Mp rfl ?_))))))))))))))))
  obtain ⟨hpe, ok⟩ := Hp_pull 1 ok rfl
  rw [hpe]; clear hpe
  refine S_call (F_scan_scanner_name_ok (p0 := (⟨p0.b, (IntKind.wrap .i64 (p0.at_ + (1 : Int)))⟩ : TS)) (q0 := q0) h _ hq0 ok hF fun x2 _  ok hF => (S_m (v := .tup _) rfl (S_ext rfl rfl (S_ext rfl rfl (S_a (v := .str _) rfl (Ai rfl (Sn (C_seq (CR (Mi rfl (S_bin rfl rfl (ev_neq ..) (Sn ?_)))))))))))) (.refl _)
  refine C_if (b := (x2.1.2 != (0 : Int))) rfl hF (fun hb3 hF => ?_) (fun hb3 hF => ?_)
  · refine CR (Mi rfl (Ai rfl (Sn (WP_ret ?_))))
    with_reducible repeat first | apply Exit.sr | apply Exit.br | apply Exit.jr
    have hwo : WO ((cSc q0 x2.2) :: (i1, .cells [.str nB, .str nB]) :: (cTk q1 b1_3 p1) :: mo b1_3 cP p1.Pairs :: O) ((cSc q0 x2.2) :: (cTk q1 b1_3 p1) :: mo b1_3 cP p1.Pairs :: O) := (.keep (.drop (.keep (.keep (.refl O)))))
    refine C_ret (fn := Tryz.f84) rfl (.tmp (v := .I x2.1.2) rfl .nil) ?_
    exact ⟨_, _, (.refl _), (hwo.spec ok).2.2, _, F_some hF, rfl, b1_3, zb1_3, (hwo.spec ok).1, rfl⟩
  · refine WP_skip (CR (Mp rfl (Mp rfl (Ms rfl (S_nilc (v := .ptr _ _) rfl rfl (S_faP rfl ty_fd_66_2 ty_sz_9 (S_st (j := 2) (cs' := [.I p1.Kind, .I p1.At, .str x2.1.1, mslO 2 b1_3 p1.Pairs, .str p1.Text, .I p1.Refs]) ok rfl rfl rfl hq1 rfl ty_sz_9 rfl rfl (fun ok => S_nilc (v := .ptr _ _) rfl rfl (S_faP rfl ty_fd_66_0 ty_sz_3 (S_st (j := 2) (cs' := [.I 2, .I p1.At, .str x2.1.1, mslO 2 b1_3 p1.Pairs, .str p1.Text, .I p1.Refs]) ok rfl rfl rfl hq1 rfl ty_sz_3 rfl rfl (fun ok => Sn (C_seq (WP_label ?_)))))))))))))
    refine C_gloop (σ := LB × Int × Int × Int × LB × (List TP) × LB × Int × LB × LB) hF (fun (v : LB × Int × Int × Int × LB × (List TP) × LB × Int × LB × LB) s' => match v with | (a4, a5, a6, a7, a8, a10, a11, a12, a13, a14) => ∃ g9 : Nat, (g9 = 0 → a10 = []) ∧ OK h ((q0, .cells [.sl 1 (List.map c_u8 a4) 0, .I a5]) :: (i1, .cells [.str a13, .str a14]) :: (q1, .cells [.I a6, .I a7, .str a8, mslO 2 g9 a10, .str a11, .I a12]) :: mo g9 cP a10 :: O) ∧ WS s' ⟨mkSl 118 [(0, .ptr q0 0), (1, .ptr q1 0), (6, .ptr i1 0)], Hp h ((q0, .cells [.sl 1 (List.map c_u8 a4) 0, .I a5]) :: (i1, .cells [.str a13, .str a14]) :: (q1, .cells [.I a6, .I a7, .str a8, mslO 2 g9 a10, .str a11, .I a12]) :: mo g9 cP a10 :: O)⟩) ?_ ?_
    · exact ⟨b1_3, zb1_3, ok, WS.mk' (.k (.k (.k .nil))) ok (.refl _)⟩
    · rintro G15 hG16 rec17 ⟨a4, a5, a6, a7, a8, a10, a11, a12, a13, a14⟩ s' ih18 hF ⟨g9, zg9, ok, hws⟩
      refine WP_ws hws ?_
      clear hws s'
      rw [F_scan_scanner_tag_l0] at hF
      refine CR (Mp rfl (S_nilc (v := .ptr _ _) rfl rfl (S_faP rfl ty_fd_95_1 ty_sz_3 (S_ldP (j := 0) ok rfl rfl rfl hq0 (p_one (v := .I a5) ty_ag_3 ty_sz_3 rfl) (Ai rfl (Sn (CR (Mp rfl (Mp rfl (Mi rfl (S_call (F_scan_scanner_spaces_ok (p0 := (⟨a4, a5⟩ : TS)) (q0 := q0) h _ hq0 ok hF fun x19 _  ok hF => (S_nilc (v := .ptr _ _) rfl rfl (S_faP rfl ty_fd_95_1 ty_sz_3 (S_st (j := 0) (cs' := [.sl 1 (List.map c_u8 a4) 0, .I x19]) ok rfl rfl rfl hq0 rfl ty_sz_3 rfl rfl (fun ok => Sn (C_seq (CR (Mp rfl (S_call (F_scan_scanner_here_ok (p0 := (⟨a4, x19⟩ : TS)) (q0 := q0) h _ hq0 ok hF fun x20 _  ok hF => (Sn ?_)) (.refl _)))))))))) (.refl _))))))))))))
      refine C_if (b := x20) rfl hF (fun hb21 hF => ?_) (fun hb21 hF => ?_)
      · refine CR (Mp rfl (S_nilc (v := .ptr _ _) rfl rfl (S_faP rfl ty_fd_66_0 ty_sz_3 (S_st (j := 2) (cs' := [.I 4, .I a7, .str a8, mslO 2 g9 a10, .str a11, .I a12]) ok rfl rfl rfl hq1 rfl ty_sz_3 rfl rfl (fun ok => Sn (CR (Mp rfl (S_call (F_scan_scanner_sign_ok (p0 := (⟨a4, x19⟩ : TS)) (q0 := q0) h _ hq0 ok hF fun x22 _  ok hF => (Ai rfl (Sn (WP_ret ?_)))) (.refl _)))))))))
        replace hF := hG16 _ (F_some hF)
        with_reducible repeat first | apply Exit.sr | apply Exit.br | apply Exit.jr
        have hwo : WO ((cSc q0 x22.2) :: (i1, .cells [.str a13, .str a14]) :: (q1, .cells [.I 4, .I a7, .str a8, mslO 2 g9 a10, .str a11, .I a12]) :: mo g9 cP a10 :: O) ((cSc q0 x22.2) :: (q1, .cells [.I 4, .I a7, .str a8, mslO 2 g9 a10, .str a11, .I a12]) :: mo g9 cP a10 :: O) := (.keep (.drop (.keep (.keep (.refl O)))))
        refine C_ret (fn := Tryz.f84) rfl (.tmp (v := .I x22.1) rfl .nil) ?_
        exact ⟨_, _, (.refl _), (hwo.spec ok).2.2, _, F_some hF, rfl, g9, zg9, (hwo.spec ok).1, rfl⟩
      · refine WP_skip (C_seq (CR (Mp rfl (S_call (F_scan_scanner_here_ok (p0 := (⟨a4, x19⟩ : TS)) (q0 := q0) h _ hq0 ok hF fun x23 _  ok hF => (Sn ?_)) (.refl _)))))
        refine C_if (b := x23) rfl hF (fun hb24 hF => ?_) (fun hb24 hF => ?_)
        · refine CR (Mp rfl (S_call (F_scan_scanner_sign_ok (p0 := (⟨a4, x19⟩ : TS)) (q0 := q0) h _ hq0 ok hF fun x25 _  ok hF => (Ai rfl (Sn (WP_ret ?_)))) (.refl _)))
          replace hF := hG16 _ (F_some hF)
          with_reducible repeat first | apply Exit.sr | apply Exit.br | apply Exit.jr
          have hwo : WO ((cSc q0 x25.2) :: (i1, .cells [.str a13, .str a14]) :: (q1, .cells [.I a6, .I a7, .str a8, mslO 2 g9 a10, .str a11, .I a12]) :: mo g9 cP a10 :: O) ((cSc q0 x25.2) :: (q1, .cells [.I a6, .I a7, .str a8, mslO 2 g9 a10, .str a11, .I a12]) :: mo g9 cP a10 :: O) := (.keep (.drop (.keep (.keep (.refl O)))))
          refine C_ret (fn := Tryz.f84) rfl (.tmp (v := .I x25.1) rfl .nil) ?_
          exact ⟨_, _, (.refl _), (hwo.spec ok).2.2, _, F_some hF, rfl, g9, zg9, (hwo.spec ok).1, rfl⟩
        · refine WP_skip (C_seq (CR (Mp rfl (S_nilc (v := .ptr _ _) rfl rfl (S_faP rfl ty_fd_95_1 ty_sz_3 (S_ldP (j := 0) ok rfl rfl rfl hq0 (p_one (v := .I x19) ty_ag_3 ty_sz_3 rfl) (Mi rfl (S_bin rfl rfl (ev_eql ..) (Sn ?_)))))))))
          refine C_if (b := (x19 == a5)) rfl hF (fun hb26 hF => ?_) (fun hb26 hF => ?_)
          · refine CR (Ai rfl (Sn (WP_ret ?_)))
            replace hF := hG16 _ (F_some hF)
            with_reducible repeat first | apply Exit.sr | apply Exit.br | apply Exit.jr
            have hwo : WO ((q0, .cells [.sl 1 (List.map c_u8 a4) 0, .I x19]) :: (i1, .cells [.str a13, .str a14]) :: (q1, .cells [.I a6, .I a7, .str a8, mslO 2 g9 a10, .str a11, .I a12]) :: mo g9 cP a10 :: O) ((q0, .cells [.sl 1 (List.map c_u8 a4) 0, .I x19]) :: (q1, .cells [.I a6, .I a7, .str a8, mslO 2 g9 a10, .str a11, .I a12]) :: mo g9 cP a10 :: O) := (.keep (.drop (.keep (.keep (.refl O)))))
            refine C_ret (fn := Tryz.f84) rfl (.tmp (v := .I 23) rfl .nil) ?_
            exact ⟨_, _, (.refl _), (hwo.spec ok).2.2, _, F_some hF, rfl, g9, zg9, (hwo.spec ok).1, rfl⟩
          · refine WP_skip (C_seq (CR (Mp rfl (S_call (F_scan_scanner_name_ok (p0 := (⟨a4, x19⟩ : TS)) (q0 := q0) h _ hq0 ok hF fun x27 _  ok hF => (S_m (v := .tup _) rfl (S_ext rfl rfl (S_ext rfl rfl (S_faP rfl ty_fd_161_0 ty_sz_9 (S_st (j := 1) (cs' := [.str x27.1.1, .str a14]) ok rfl rfl rfl hi1 rfl ty_sz_9 rfl rfl (fun ok => Ai rfl (Sn (CR (Mi rfl (S_bin rfl rfl (ev_neq ..) (Sn ?_)))))))))))) (.refl _)))))
            refine C_if (b := (x27.1.2 != (0 : Int))) rfl hF (fun hb28 hF => ?_) (fun hb28 hF => ?_)
            · refine CR (Mi rfl (Ai rfl (Sn (WP_ret ?_))))
              replace hF := hG16 _ (F_some hF)
              with_reducible repeat first | apply Exit.sr | apply Exit.br | apply Exit.jr
              have hwo : WO ((cSc q0 x27.2) :: (i1, .cells [.str x27.1.1, .str a14]) :: (q1, .cells [.I a6, .I a7, .str a8, mslO 2 g9 a10, .str a11, .I a12]) :: mo g9 cP a10 :: O) ((cSc q0 x27.2) :: (q1, .cells [.I a6, .I a7, .str a8, mslO 2 g9 a10, .str a11, .I a12]) :: mo g9 cP a10 :: O) := (.keep (.drop (.keep (.keep (.refl O)))))
              refine C_ret (fn := Tryz.f84) rfl (.tmp (v := .I x27.1.2) rfl .nil) ?_
              exact ⟨_, _, (.refl _), (hwo.spec ok).2.2, _, F_some hF, rfl, g9, zg9, (hwo.spec ok).1, rfl⟩
            · refine WP_skip (C_seq (CR (Mp rfl (S_call (F_scan_scanner_equals_ok (p0 := x27.2) (q0 := q0) h _ hq0 ok hF fun x29 _  ok hF => (Ai rfl (Sn (CR (Mi rfl (S_bin rfl rfl (ev_neq ..) (Sn ?_))))))) (.refl _)))))
              refine C_if (b := (x29.1 != (0 : Int))) rfl hF (fun hb30 hF => ?_) (fun hb30 hF => ?_)
              · refine CR (Mi rfl (Ai rfl (Sn (WP_ret ?_))))
                replace hF := hG16 _ (F_some hF)
                with_reducible repeat first | apply Exit.sr | apply Exit.br | apply Exit.jr
                have hwo : WO ((cSc q0 x29.2) :: (i1, .cells [.str x27.1.1, .str a14]) :: (q1, .cells [.I a6, .I a7, .str a8, mslO 2 g9 a10, .str a11, .I a12]) :: mo g9 cP a10 :: O) ((cSc q0 x29.2) :: (q1, .cells [.I a6, .I a7, .str a8, mslO 2 g9 a10, .str a11, .I a12]) :: mo g9 cP a10 :: O) := (.keep (.drop (.keep (.keep (.refl O)))))
                refine C_ret (fn := Tryz.f84) rfl (.tmp (v := .I x29.1) rfl .nil) ?_
                exact ⟨_, _, (.refl _), (hwo.spec ok).2.2, _, F_some hF, rfl, g9, zg9, (hwo.spec ok).1, rfl⟩
              · refine WP_skip (C_seq (CR (Mp rfl (S_call (F_scan_scanner_quoted_ok (p0 := x29.2) (q0 := q0) h _ hq0 ok hF fun x31 _  ok hF => (S_m (v := .tup _) rfl (S_ext rfl rfl (S_ext rfl rfl (S_a (v := .sl _ _ _) rfl (Ai rfl (Sn (CR (Mi rfl (S_bin rfl rfl (ev_neq ..) (Sn ?_))))))))))) (.refl _)))))
                refine C_if (b := (x31.1.2 != (0 : Int))) rfl hF (fun hb32 hF => ?_) (fun hb32 hF => ?_)
                · refine CR (Mi rfl (Ai rfl (Sn (WP_ret ?_))))
                  replace hF := hG16 _ (F_some hF)
                  with_reducible repeat first | apply Exit.sr | apply Exit.br | apply Exit.jr
                  have hwo : WO ((cSc q0 x31.2) :: (i1, .cells [.str x27.1.1, .str a14]) :: (q1, .cells [.I a6, .I a7, .str a8, mslO 2 g9 a10, .str a11, .I a12]) :: mo g9 cP a10 :: O) ((cSc q0 x31.2) :: (q1, .cells [.I a6, .I a7, .str a8, mslO 2 g9 a10, .str a11, .I a12]) :: mo g9 cP a10 :: O) := (.keep (.drop (.keep (.keep (.refl O)))))
                  refine C_ret (fn := Tryz.f84) rfl (.tmp (v := .I x31.1.2) rfl .nil) ?_
                  exact ⟨_, _, (.refl _), (hwo.spec ok).2.2, _, F_some hF, rfl, g9, zg9, (hwo.spec ok).1, rfl⟩
                · refine WP_skip (C_seq (CR (Ml rfl (S_call (F_refer_ReadValue_ok _ hF fun x33 _ hF => (S_m (v := .tup _) rfl (S_ext rfl rfl (S_ext rfl rfl (S_ext rfl rfl (S_faP rfl ty_fd_161_1 ty_sz_9 (S_st (j := 1) (cs' := [.str x27.1.1, .str x33.1]) ok rfl rfl rfl hi1 rfl ty_sz_9 rfl rfl (fun ok => Ai rfl (Sn (CR (Mi rfl (S_bin rfl rfl (ev_neq ..) (Sn ?_))))))))))))) (.refl _)))))
                  refine C_if (b := (x33.2.2 != (0 : Int))) rfl hF (fun hb34 hF => ?_) (fun hb34 hF => ?_)
                  · refine CR (Mi rfl (Ai rfl (Sn (WP_ret ?_))))
                    replace hF := hG16 _ (F_some hF)
                    with_reducible repeat first | apply Exit.sr | apply Exit.br | apply Exit.jr
                    have hwo : WO ((cSc q0 x31.2) :: (i1, .cells [.str x27.1.1, .str x33.1]) :: (q1, .cells [.I a6, .I a7, .str a8, mslO 2 g9 a10, .str a11, .I a12]) :: mo g9 cP a10 :: O) ((cSc q0 x31.2) :: (q1, .cells [.I a6, .I a7, .str a8, mslO 2 g9 a10, .str a11, .I a12]) :: mo g9 cP a10 :: O) := (.keep (.drop (.keep (.keep (.refl O)))))
                    refine C_ret (fn := Tryz.f84) rfl (.tmp (v := .I x33.2.2) rfl .nil) ?_
                    exact ⟨_, _, (.refl _), (hwo.spec ok).2.2, _, F_some hF, rfl, g9, zg9, (hwo.spec ok).1, rfl⟩
                  · refine WP_skip ?_
                    refine C_join hF (fun (_ : Unit) s' => OK h ((cSc q0 x31.2) :: (i1, .cells [.str x27.1.1, .str x33.1]) :: (q1, .cells [.I a6, .I a7, .str a8, mslO 2 g9 a10, .str a11, .I a12]) :: mo g9 cP a10 :: O) ∧ WS s' ⟨mkSl 118 [(0, .ptr q0 0), (1, .ptr q1 0), (6, .ptr i1 0)], Hp h ((cSc q0 x31.2) :: (i1, .cells [.str x27.1.1, .str x33.1]) :: (q1, .cells [.I a6, .I a7, .str a8, mslO 2 g9 a10, .str a11, .I a12]) :: mo g9 cP a10 :: O)⟩) (fun J40 hF => ?_) ?_
                    · refine CR (Mp rfl (S_nilc (v := .ptr _ _) rfl rfl (S_faP rfl ty_fd_66_3 ty_sz_64 (S_ldP (j := 2) ok rfl rfl rfl hq1 (p_one (v := mslO 2 g9 a10) ty_ag_64 ty_sz_64 rfl) (S_lenO zg9 rfl ty_sl_64 (Mi rfl (Sn (WP_block ?_))))))))
                      refine C_loop (σ := Int) hF (fun (a41 : Int) s' => OK h ((cSc q0 x31.2) :: (i1, .cells [.str x27.1.1, .str x33.1]) :: (q1, .cells [.I a6, .I a7, .str a8, mslO 2 g9 a10, .str a11, .I a12]) :: mo g9 cP a10 :: O) ∧ WS s' ⟨mkSl 118 [(0, .ptr q0 0), (1, .ptr q1 0), (6, .ptr i1 0), (96, mslO 2 g9 a10), (97, .I (a10.length : Int)), (98, .I a41)], Hp h ((cSc q0 x31.2) :: (i1, .cells [.str x27.1.1, .str x33.1]) :: (q1, .cells [.I a6, .I a7, .str a8, mslO 2 g9 a10, .str a11, .I a12]) :: mo g9 cP a10 :: O)⟩) ?_ ?_
                      · exact ⟨ok, WS.mk' (.k (.k (.k (.k (.k (.k .nil)))))) ok (.refl _)⟩
                      · rintro G42 hG43 rec44 a41 s' ih45 hF ⟨ok, hws⟩
                        refine WP_ws hws ?_
                        clear hws s'
                        rw [F_scan_scanner_tag_l1] at hF
                        refine CR (S_bin rfl rfl (ev_lss ..) (Sn (C_seq ?_)))
                        refine C_if (b := (decide (a41 < (a10.length : Int)))) rfl hF (fun hb46 hF => ?_) (fun hb46 hF => ?_)
                        · refine WP_skip (C_seq (WP_block (C_seq (C_reg (mdl [(11, 1)]) (S_ixO zg9 rfl rfl ty_sl_64 ty_sz_161 hF (fun x47 hx47 hF => S_ldO (q := 2) (j := 3) (f0 := 0) ok rfl zg9 rfl rfl (fun _ => rfl) hx47 rfl rfl (p_agg (vs := cP x47) ty_ag_161 ty_sz_161 rfl rfl) (S_all1 ok rfl ty_zc_161 ?_)))))))
                          intro i48 hi48 ok
                          refine S_st (j := 0) (cs' := [.str x47.Name, .str x47.Value]) ok rfl rfl rfl hi48 rfl ty_sz_161 rfl rfl (fun ok => Sn (CR (S_faP rfl ty_fd_161_0 ty_sz_9 (S_ldP (j := 0) ok rfl rfl rfl hi48 (p_one (v := .str x47.Name) ty_ag_9 ty_sz_9 rfl) (S_faP rfl ty_fd_161_0 ty_sz_9 (S_ldP (j := 2) ok rfl rfl rfl hi1 (p_one (v := .str x27.1.1) ty_ag_9 ty_sz_9 rfl) (S_bin rfl rfl e_seql (Sn ?_))))))))
                          refine C_if (b := (x47.Name == x27.1.1)) rfl hF (fun hb49 hF => ?_) (fun hb49 hF => ?_)
                          · refine CR (Ai rfl (Sn (WP_ret ?_)))
                            replace hF := hG43 _ (F_some hF)
                            replace hF := hG16 _ (F_some hF)
                            with_reducible repeat first | apply Exit.sr | apply Exit.br | apply Exit.jr
                            have hwo : WO ((i48, .cells [.str x47.Name, .str x47.Value]) :: (cSc q0 x31.2) :: (i1, .cells [.str x27.1.1, .str x33.1]) :: (q1, .cells [.I a6, .I a7, .str a8, mslO 2 g9 a10, .str a11, .I a12]) :: mo g9 cP a10 :: O) ((cSc q0 x31.2) :: (q1, .cells [.I a6, .I a7, .str a8, mslO 2 g9 a10, .str a11, .I a12]) :: mo g9 cP a10 :: O) := (.drop (.keep (.drop (.keep (.keep (.refl O))))))
                            refine C_ret (fn := Tryz.f84) rfl (.tmp (v := .I 27) rfl .nil) ?_
                            exact ⟨_, _, (.refl _), (hwo.spec ok).2.2, _, F_some hF, rfl, g9, zg9, (hwo.spec ok).1, rfl⟩
                          · refine WP_skip (C_reg (mdl []) (S_bin rfl rfl (ev_add ..) (Mi rfl (Sn (ih45 (IntKind.wrap .i64 (a41 + (1 : Int))) _ hF ?_)))))
                            have hwo : WO ((i48, .cells [.str x47.Name, .str x47.Value]) :: (cSc q0 x31.2) :: (i1, .cells [.str x27.1.1, .str x33.1]) :: (q1, .cells [.I a6, .I a7, .str a8, mslO 2 g9 a10, .str a11, .I a12]) :: mo g9 cP a10 :: O) ((cSc q0 x31.2) :: (i1, .cells [.str x27.1.1, .str x33.1]) :: (q1, .cells [.I a6, .I a7, .str a8, mslO 2 g9 a10, .str a11, .I a12]) :: mo g9 cP a10 :: O) := (.drop (.keep (.keep (.keep (.keep (.refl O))))))
                            exact ⟨(hwo.spec ok).1, WS.mk' (.k (.k (.k (.k (.k (.k .nil)))))) ok hwo⟩
                        · refine WP_exit ?_
                          simp only [Exit.sel, Exit.blk, Exit.jmp, if_true, if_false, reduceIte, Nat.reduceEqDiff, Nat.succ_ne_zero, Nat.zero_ne_one, Nat.one_ne_zero]
                          replace hF := hG43 _ (F_some hF)
                          exact ⟨(), hF, ok, WS.mk' (.k (.k (.k .nil))) ok (.refl _)⟩
                    · rintro ⟨⟩ s' hF ⟨ok, hws⟩
                      refine WP_ws hws ?_
                      clear hws s'
                      refine C_seq ?_
                      refine C_drw (mdl [(115, 1)]) (by kernel_rfl) (by kernel_rfl) ?_
                      refine Mp rfl (Mp rfl (S_nilc (v := .ptr _ _) rfl rfl (S_faP rfl ty_fd_66_3 ty_sz_64 (S_ldP (j := 2) ok rfl rfl rfl hq1 (p_one (v := mslO 2 g9 a10) ty_ag_64 ty_sz_64 rfl) (S_ldP (j := 1) ok rfl rfl rfl hi1 (p_agg (vs := cP (⟨x27.1.1, x33.1⟩ : TP)) ty_ag_161 ty_sz_161 rfl rfl) ?_)))))
                      refine S_lit0 (cs := [.str (⟨x27.1.1, x33.1⟩ : TP).Name, .str (⟨x27.1.1, x33.1⟩ : TP).Value]) (es := (List.map cP [(⟨x27.1.1, x33.1⟩ : TP)])) rfl ty_el_64 rfl (by kernel_rfl) (by kernel_rfl) ?_
                      refine S_appO (j := 3) (M := [(⟨x27.1.1, x33.1⟩ : TP)]) ok zg9 rfl rfl src_sl (fun _ => rfl) rfl ty_el_64 ty_ni_64 hF ?_
                      intro u50 zu50 ok hF
                      obtain ⟨a51, ha51, hF⟩ := F_let hF
                      rw [← ha51] at ok zu50
                      rw [← ha51]
                      refine S_nilc (v := .ptr _ _) rfl rfl (S_faP rfl ty_fd_66_3 ty_sz_64 (S_stB (j := 2) (cs' := [.I a6, .I a7, .str a8, mslO 2 u50 a51, .str a11, .I a12]) ok rfl rfl rfl hq1 ty_sz_64 rfl rfl (fun ok => Sn (WP_goto ?_))))
                      repeat (first | with_reducible refine Exit.sel_goto ?_ | with_reducible refine Exit.blk_goto ?_)
                      refine jmp_goto rfl (ih18 (x31.2.b, x31.2.at_, a6, a7, a8, a51, a11, a12, x27.1.1, x33.1) _ hF ?_)
                      exact ⟨u50, zu50, ok, WS.mk' (.k (.k (.k .nil))) ok (.refl _)⟩
theorem F_scan_scanner_tag_ok {β : Type} {f0 : Int × TS × TK → Option β} {G : β → Prop} {R : D → Heap → Prop} {p0 : TS} {p1 : TK} {q0 : Nat} {q1 : Nat} {b1_3 : Nat} (h : Heap) (O : List (Nat × AObj)) (hq0 : q0 ≠ 0) (hq1 : q1 ≠ 0) (zb1_3 : b1_3 = 0 → p1.Pairs = []) (ok : OK h ((cSc q0 p0) :: (cTk q1 b1_3 p1) :: mo b1_3 cP p1.Pairs :: O)) (hF : OptP ((F_scan_scanner_tag p0 p1).bind f0) G) (hk : ∀ r b1_3', F_scan_scanner_tag p0 p1 = some r → (b1_3' = 0 → r.2.2.Pairs = []) → OK h ((cSc q0 r.2.1) :: (cTk q1 b1_3' r.2.2) :: mo b1_3' cP r.2.2.Pairs :: O) → OptP (f0 r) G → R (.I r.1) (Hp h ((cSc q0 r.2.1) :: (cTk q1 b1_3' r.2.2) :: mo b1_3' cP r.2.2.Pairs :: O))) : CallsA Tryz.prog 84 [.ptr q0 0, .ptr q1 0] (Hp h ((cSc q0 p0) :: (cTk q1 b1_3 p1) :: mo b1_3 cP p1.Pairs :: O)) R := by
  obtain ⟨r0, hr, hF⟩ := F_bind hF
  refine (F_scan_scanner_tag_w (G := fun r => r = r0) p0 p1 q0 q1 b1_3 h O hq0 hq1 zb1_3 ok ⟨r0, hr, rfl⟩).mono ?_
  rintro _ _ ⟨r, rfl, rfl, b1_3', y0, ok', rfl⟩
  exact hk _ _ hr y0 ok' hF
theorem F_refer_ReadText_w (p0 : LB) {G : LB × Int × Int → Prop} (h : Heap) (hF : OptP (F_refer_ReadText p0) G) : CallsA Tryz.prog 125 [.sl 1 (List.map c_u8 p0) 0] h fun d h' => ∃ r, G r ∧ d = .tup [.str r.1, .I r.2.1, .I r.2.2] ∧ h' = h := by
  refine CallsA.ret (C_body Tryz.func125 rfl en_125 Tryz.ntmps125 rfl (fun ok => ?_))
  rw [F_refer_ReadText] at hF
  refine CR (S_a (v := .str nB) rfl (Ai rfl (Ai rfl (Sn (CR (Ml rfl (S_call (F_refer_read_ok _ hF fun x1 _ hF => (S_ext rfl rfl (S_ext rfl rfl (S_ext rfl rfl (S_a (v := .str _) rfl (Ai rfl (Ai rfl (Sn (WP_ret ?_))))))))) (.refl _))))))))
  with_reducible repeat first | apply Exit.sr | apply Exit.br | apply Exit.jr
  refine C_ret (fn := Tryz.f125) rfl (.tmp (v := .str x1.1) rfl (.tmp (v := .I x1.2.1) rfl (.tmp (v := .I x1.2.2) rfl .nil))) ?_
  exact ⟨_, _, (.refl _), ok.wh, _, F_some hF, rfl, rfl⟩
theorem F_refer_ReadText_ok {β : Type} {f : LB × Int × Int → Option β} {G : β → Prop} {R : D → Heap → Prop} {p0 : LB} (h : Heap) (hF : OptP ((F_refer_ReadText p0).bind f) G) (hk : ∀ r, F_refer_ReadText p0 = some r → OptP (f r) G → R (.tup [.str r.1, .I r.2.1, .I r.2.2]) h) : CallsA Tryz.prog 125 [.sl 1 (List.map c_u8 p0) 0] h R := by
  obtain ⟨r0, hr, hF⟩ := F_bind hF
  refine (F_refer_ReadText_w (G := fun r => r = r0) p0 h ⟨r0, hr, rfl⟩).mono ?_
  rintro _ _ ⟨r, rfl, rfl, rfl⟩
  exact hk _ hr hF
theorem F_scan_scanner_text_w (p0 : TS) (p1 : TK) (q0 : Nat) (q1 : Nat) (b1_3 : Nat) {G : Int × TS × TK → Prop} (h : Heap) (O : List (Nat × AObj)) (hq0 : q0 ≠ 0) (hq1 : q1 ≠ 0) (zb1_3 : b1_3 = 0 → p1.Pairs = []) (ok : OK h ((cSc q0 p0) :: (cTk q1 b1_3 p1) :: mo b1_3 cP p1.Pairs :: O)) (hF : OptP (F_scan_scanner_text p0 p1) G) : CallsA Tryz.prog 85 [.ptr q0 0, .ptr q1 0] (Hp h ((cSc q0 p0) :: (cTk q1 b1_3 p1) :: mo b1_3 cP p1.Pairs :: O)) fun d h' => ∃ r, G r ∧ d = .I r.1 ∧ ∃ b1_3' : Nat, (b1_3' = 0 → r.2.2.Pairs = []) ∧ OK h ((cSc q0 r.2.1) :: (cTk q1 b1_3' r.2.2) :: mo b1_3' cP r.2.2.Pairs :: O) ∧ h' = Hp h ((cSc q0 r.2.1) :: (cTk q1 b1_3' r.2.2) :: mo b1_3' cP r.2.2.Pairs :: O) := by
  refine CallsA.ret (C_bodyO Tryz.func85 rfl en_85 Tryz.ntmps85 rfl ?_)
  rw [F_scan_scanner_text] at hF
  refine CR (Ai rfl (Sn (CR (Mp rfl (S_nilc (v := .ptr _ _) rfl rfl (S_faP rfl ty_fd_66_0 ty_sz_3 (S_st (j := 1) (cs' := [.I 5, .I p1.At, .str p1.Name, mslO 2 b1_3 p1.Pairs, .str p1.Text, .I p1.Refs]) ok rfl rfl rfl hq1 rfl ty_sz_3 rfl rfl (fun ok => Sn (C_seq ?_)))))))))
  refine C_drw (mdl []) (by kernel_rfl) (by kernel_rfl) ?_
  refine Mp rfl (S_nilc (v := .ptr _ _) rfl rfl (S_faP rfl ty_fd_95_0 ty_sz_22 (S_ldP (j := 0) ok rfl rfl rfl hq0 (p_one (v := .sl 1 (List.map c_u8 p0.b) 0) ty_ag_22 ty_sz_22 rfl) (Mp rfl (S_nilc (v := .ptr _ _) rfl rfl (S_faP rfl ty_fd_95_1 ty_sz_3 (S_ldP (j := 0) ok rfl rfl rfl hq0 (p_one (v := .I p0.at_) ty_ag_3 ty_sz_3 rfl) (S_slL rfl ty_sl_22 ty_sz_5 (bd_at rfl) bd_len hF (fun x1 _ hF => S_a (v := .sl _ _ _) rfl (Sn ?_))))))))))
  refine C_join hF (fun (a5 : LB) s' => OK h ((cSc q0 p0) :: (q1, .cells [.I 5, .I p1.At, .str p1.Name, mslO 2 b1_3 p1.Pairs, .str p1.Text, .I p1.Refs]) :: mo b1_3 cP p1.Pairs :: O) ∧ WS s' ⟨mkSl 56 [(0, .ptr q0 0), (1, .ptr q1 0), (5, .sl 1 (List.map c_u8 a5) 0)], Hp h ((cSc q0 p0) :: (q1, .cells [.I 5, .I p1.At, .str p1.Name, mslO 2 b1_3 p1.Pairs, .str p1.Text, .I p1.Refs]) :: mo b1_3 cP p1.Pairs :: O)⟩) (fun J6 hF => ?_) ?_
  · refine CR (Ml rfl (S_call (L_bIndexByte_ok _ hF fun x7 _ hF => (Ai rfl (Sn (CR (Mi rfl (S_bin rfl rfl (ev_geq ..) (Sn ?_))))))) (.refl _)))
    refine C_if (b := (decide ((0 : Int) ≤ x7))) rfl hF (fun hb8 hF => ?_) (fun hb8 hF => ?_)
    · refine C_reg (mdl []) (Ml rfl (Mi rfl (S_slL rfl ty_sl_22 ty_sz_5 bd_no (bd_at rfl) hF (fun x9 _ hF => S_a (v := .sl _ _ _) rfl (Sn ?_)))))
      exact ⟨x9, hF, ok, WS.mk' (.k (.k (.k .nil))) ok (.refl _)⟩
    · refine WP_skip ?_
      exact ⟨x1, hF, ok, WS.mk' (.k (.k (.k .nil))) ok (.refl _)⟩
  · rintro a5 s' hF ⟨ok, hws⟩
    refine WP_ws hws ?_
    clear hws s'
    refine CR (Ml rfl (S_call (F_refer_ReadText_ok _ hF fun x10 _ hF => (S_m (v := .tup _) rfl (S_ext rfl rfl (S_ext rfl rfl (S_ext rfl rfl (S_a (v := .str _) rfl (Ai rfl (Ai rfl (Sn (C_seq (C_reg (mdl [(39, 5), (40, 5)]) (Mp rfl (Mp rfl (Ms rfl (Ml rfl ?_))))))))))))))) (.refl _)))
    refine S_lit5 (cs := [.int .u8 38]) ok rfl ty_el_22 rfl (by kernel_rfl) ?_
    intro i11 hi11 ok
    refine S_cvt (v := .sl 1 (List.map c_u8 ([38] : LB)) 0) (by kernel_rfl) 0 ok rfl rfl hi11 rfl ty_sl_22 ty_ki_5 rfl rfl (fun ok => ?_)
    refine S_call (L_bCount_ok _ hF fun x13 _ hF => (S_nilc (v := .ptr _ _) rfl rfl (S_faP rfl ty_fd_66_4 ty_sz_9 (S_st (j := 2) (cs' := [.I 5, .I p1.At, .str p1.Name, mslO 2 b1_3 p1.Pairs, .str x10.1, .I p1.Refs]) ok rfl rfl rfl hq1 rfl ty_sz_9 rfl rfl (fun ok => S_nilc (v := .ptr _ _) rfl rfl (S_faP rfl ty_fd_66_5 ty_sz_3 (S_st (j := 2) (cs' := [.I 5, .I p1.At, .str p1.Name, mslO 2 b1_3 p1.Pairs, .str x10.1, .I x13]) ok rfl rfl rfl hq1 rfl ty_sz_3 rfl rfl (fun ok => Sn (CR (Mp rfl (S_nilc (v := .ptr _ _) rfl rfl (S_faP rfl ty_fd_95_1 ty_sz_3 (S_ldP (j := 1) ok rfl rfl rfl hq0 (p_one (v := .I p0.at_) ty_ag_3 ty_sz_3 rfl) (Ml rfl (S_lenL rfl ty_sl_22 (S_bin rfl rfl (ev_add ..) (S_nilc (v := .ptr _ _) rfl rfl (S_faP rfl ty_fd_95_1 ty_sz_3 (S_st (j := 1) (cs' := [.sl 1 (List.map c_u8 p0.b) 0, .I (IntKind.wrap .i64 (p0.at_ + (a5.length : Int)))]) ok rfl rfl rfl hq0 rfl ty_sz_3 rfl rfl (fun ok => Sn (CR (Mi rfl (Ai rfl (Sn (WP_ret ?_))))))))))))))))))))))))) (.refl _)
    with_reducible repeat first | apply Exit.sr | apply Exit.br | apply Exit.jr
    have hwo : WO ((0, .room) :: (q0, .cells [.sl 1 (List.map c_u8 p0.b) 0, .I (IntKind.wrap .i64 (p0.at_ + (a5.length : Int)))]) :: (q1, .cells [.I 5, .I p1.At, .str p1.Name, mslO 2 b1_3 p1.Pairs, .str x10.1, .I x13]) :: mo b1_3 cP p1.Pairs :: O) ((q0, .cells [.sl 1 (List.map c_u8 p0.b) 0, .I (IntKind.wrap .i64 (p0.at_ + (a5.length : Int)))]) :: (q1, .cells [.I 5, .I p1.At, .str p1.Name, mslO 2 b1_3 p1.Pairs, .str x10.1, .I x13]) :: mo b1_3 cP p1.Pairs :: O) := (.drop (.keep (.keep (.keep (.refl O)))))
    refine C_ret (fn := Tryz.f85) rfl (.tmp (v := .I x10.2.2) rfl .nil) ?_
    exact ⟨_, _, (.refl _), (hwo.spec ok).2.2, _, F_some hF, rfl, b1_3, zb1_3, (hwo.spec ok).1, rfl⟩
theorem F_scan_scanner_text_ok {β : Type} {f0 : Int × TS × TK → Option β} {G : β → Prop} {R : D → Heap → Prop} {p0 : TS} {p1 : TK} {q0 : Nat} {q1 : Nat} {b1_3 : Nat} (h : Heap) (O : List (Nat × AObj)) (hq0 : q0 ≠ 0) (hq1 : q1 ≠ 0) (zb1_3 : b1_3 = 0 → p1.Pairs = []) (ok : OK h ((cSc q0 p0) :: (cTk q1 b1_3 p1) :: mo b1_3 cP p1.Pairs :: O)) (hF : OptP ((F_scan_scanner_text p0 p1).bind f0) G) (hk : ∀ r b1_3', F_scan_scanner_text p0 p1 = some r → (b1_3' = 0 → r.2.2.Pairs = []) → OK h ((cSc q0 r.2.1) :: (cTk q1 b1_3' r.2.2) :: mo b1_3' cP r.2.2.Pairs :: O) → OptP (f0 r) G → R (.I r.1) (Hp h ((cSc q0 r.2.1) :: (cTk q1 b1_3' r.2.2) :: mo b1_3' cP r.2.2.Pairs :: O))) : CallsA Tryz.prog 85 [.ptr q0 0, .ptr q1 0] (Hp h ((cSc q0 p0) :: (cTk q1 b1_3 p1) :: mo b1_3 cP p1.Pairs :: O)) R := by
  obtain ⟨r0, hr, hF⟩ := F_bind hF
  refine (F_scan_scanner_text_w (G := fun r => r = r0) p0 p1 q0 q1 b1_3 h O hq0 hq1 zb1_3 ok ⟨r0, hr, rfl⟩).mono ?_
  rintro _ _ ⟨r, rfl, rfl, b1_3', y0, ok', rfl⟩
  exact hk _ _ hr y0 ok' hF
end Go.Proofs.YtilhbalhkljanaaGreatDoor
