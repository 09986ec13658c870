/- The walks. No condition. -/
import Derived.Test.YtfokkdofcekdbaaDoorWk2
set_option linter.unusedVariables false
set_option linter.unusedSimpArgs false
set_option maxRecDepth 20000
set_option maxHeartbeats 8000000
namespace Go.Proofs.YtfokkdofcekdbaaDoor
theorem F_lecternref01_Lines_w (p0 : List UInt8) {G : (List UInt8) → Prop} (h : Heap) (hF : OptP (F_lecternref01_Lines p0) G) : CallsA Tryd.prog 19 [.sl 1 (List.map c_u8 p0) 0] h fun d h' => ∃ r, G r ∧ d = .sl 1 (List.map c_u8 r) 0 ∧ h' = h := by
 refine CallsA.ret ?_
 refine C_body Tryd.func19 rfl en_19 Tryd.ntmps19 rfl (fun ok => ?_)
 rw [F_lecternref01_Lines] at hF
 refine C_seq ?_
 refine C_reg (mdl []) ?_
 refine S_a (v := .snil) rfl ?_
 refine S_one 2 (v := .sl 1 (List.map c_u8 ([] : List UInt8)) 0) (.nil _) ?_
 refine S_nil ?_
 refine C_seq ?_
 refine C_reg (mdl [(5, 2)]) ?_
 refine S_lit2 (es := List.map c_u8 []) ok rfl ty_el_22 rfl rfl (by simp only [List.map_cons, List.map_nil, c_u8, ]; rfl) ?_
 intro r1 hr1 ok
 refine S_a (v := .sl _ _ _) rfl ?_
 refine S_nil ?_
 refine C_join hF (fun (a36 : (List UInt8)) s' => ∃ g37 : Nat, g37 ≠ 0 ∧ OK h [(g37, .room)] ∧ WS s' ⟨mkSl 45 [(3, .sl 1 (List.map c_u8 a36) g37)], Hp h [(g37, .room)]⟩) (fun J38 hF => ?_) ?_
 ·
  refine C_seq ?_
  refine C_reg (mdl []) ?_
  refine S_a (v := .int _ _) rfl ?_
  refine S_nil ?_
  refine WP_block ?_
  refine C_loop (σ := (List UInt8) × Int) hF (fun (v : (List UInt8) × Int) s' => match v with | (a39, a41) => ∃ g40 : Nat, g40 ≠ 0 ∧ OK h [(g40, .room)] ∧ WS s' ⟨mkSl 45 [(0, .sl 1 (List.map c_u8 p0) 0), (3, .sl 1 (List.map c_u8 a39) g40), (4, .int .i64 a41)], Hp h [(g40, .room)]⟩) ?_ ?_
  ·
   have hwo : WO [(r1, .room)] [(r1, .room)] := (.keep .nil)
   exact ⟨r1, hr1, (hwo.spec ok).1, WS.mk' (.cons (.refl _) (.cons (.refl _) (.cons (.refl _) .nil))) ok hwo⟩
  ·
   rintro G42 hG43 rec44 ⟨a39, a41⟩ s' ih45 hF ⟨g40, hg40, ok, hws⟩
   refine WP_ws hws ?_
   clear hws s'
   rw [F_lecternref01_Lines_l0] at hF
   refine C_seq ?_
   refine C_seq ?_
   refine C_reg (mdl []) ?_
   refine S_m (v := .int _ _) rfl ?_
   refine S_m (v := .sl _ _ _) rfl ?_
   refine S_lenL rfl ty_sl_22 ?_
   refine S_bin rfl rfl (ev_lss ..) ?_
   refine S_nil ?_
   refine C_if (b := (decide (a41 < (p0.length : Int)))) rfl hF (fun hb46 hF => ?_) (fun hb46 hF => ?_)
   ·
    refine WP_skip ?_
    refine C_join hF (fun (a61 : (List UInt8)) s' => ∃ g62 : Nat, g62 ≠ 0 ∧ OK h [(g62, .room)] ∧ WS s' ⟨mkSl 45 [(0, .sl 1 (List.map c_u8 p0) 0), (3, .sl 1 (List.map c_u8 a61) g62), (4, .int .i64 a41)], Hp h [(g62, .room)]⟩) (fun J63 hF => ?_) ?_
    ·
     refine WP_block ?_
     refine C_seq ?_
     refine C_reg (mdl []) ?_
     refine S_m (v := .sl _ _ _) rfl ?_
     refine S_m (v := .int _ _) rfl ?_
     refine S_ix rfl rfl ty_sl_22 ty_sz_5 hF (fun x64 _ hF => ?_)
     refine S_ldQ rfl (p_one ty_ag_5 ty_sz_5 rfl) ?_
     refine S_bin rfl rfl (ev_eql ..) ?_
     refine S_nil ?_
     refine C_if (b := ((x64.toNat : Int) == (13 : Int))) rfl hF (fun hb65 hF => ?_) (fun hb65 hF => ?_)
     ·
      refine C_reg (mdl [(19, 2)]) ?_
      refine S_m (v := .sl _ _ _) rfl ?_
      obtain ⟨b66, hb66, hF⟩ := F_bind hF
      replace hb66 := u8_spec hb66
      refine S_lit0 (es := List.map c_u8 [b66]) rfl ty_el_22 rfl rfl (by simp only [List.map_cons, List.map_nil, c_u8, hb66]; rfl) ?_
      refine S_app (j := 0) ok rfl rfl rfl rfl hg40 ty_el_22 ty_ni_22 hF ?_
      intro r67 hr67 ok hF
      refine S_a (v := .sl _ _ _) rfl ?_
      refine S_nil ?_
      have hwo : WO [(r67, .room)] [(r67, .room)] := (.keep .nil)
      exact ⟨(a39 ++ [b66]), hF, r67, hr67, (hwo.spec ok).1, WS.mk' (.cons (.refl _) (.cons (.refl _) (.cons (.refl _) .nil))) ok hwo⟩
     ·
      refine C_seq ?_
      refine C_reg (mdl []) ?_
      refine S_m (v := .sl _ _ _) rfl ?_
      refine S_m (v := .int _ _) rfl ?_
      refine S_ix rfl rfl ty_sl_22 ty_sz_5 hF (fun x68 _ hF => ?_)
      refine S_ldQ rfl (p_one ty_ag_5 ty_sz_5 rfl) ?_
      refine S_bin rfl rfl (ev_neq ..) ?_
      refine S_m (v := .bool _) rfl ?_
      refine S_two (b := ((x68.toNat : Int) != (10 : Int))) 3 28 (.bool (((x68.toNat : Int) != (10 : Int)) || (a41 == (0 : Int)))) (fun hb69 => ?_) (fun hb69 => ?_) ?_
      ·
       refine S_off rfl rfl hb69 ?_
       refine S_offD ?_
       refine S_off rfl rfl hb69 ?_
       refine S_offD ?_
       refine S_pickT (v := .bool _) rfl hb69 rfl ?_
       refine S_nil ?_
       refine .hd (or_t hb69) ?_
       repeat (first | with_reducible exact WS.refl _ | refine WS.add ?_ rfl | exact WS.refl _)
      ·
       refine S_on rfl rfl hb69 ?_
       refine S_in ?_
       refine S_m (v := .int _ _) rfl ?_
       refine S_nil ?_
       refine S_on rfl rfl hb69 ?_
       refine S_in ?_
       refine S_bin rfl rfl (ev_eql ..) ?_
       refine S_nil ?_
       refine S_pickF (v := .bool _) rfl hb69 rfl ?_
       refine S_nil ?_
       refine .hd (or_f hb69) ?_
       repeat (first | with_reducible exact WS.refl _ | refine WS.add ?_ rfl | exact WS.refl _)
      refine S_m (v := .bool _) rfl ?_
      refine S_twoJ 7 36 hF (fun J71 hb70 hF => ?_) (fun J71 hb70 hF => ?_) (fun v72 hF => ?_)
      ·
       refine S_off rfl rfl hb70 ?_
       refine S_offD ?_
       refine S_off rfl rfl hb70 ?_
       refine S_offD ?_
       refine S_off rfl rfl hb70 ?_
       refine S_offD ?_
       refine S_off rfl rfl hb70 ?_
       refine S_offD ?_
       refine S_off rfl rfl hb70 ?_
       refine S_offD ?_
       refine S_off rfl rfl hb70 ?_
       refine S_offD ?_
       refine S_pickT (v := .bool _) rfl hb70 rfl ?_
       refine S_nil ?_
       refine ⟨_, hF, .hd (.refl _) ?_⟩
       repeat (first | with_reducible exact WS.refl _ | refine WS.add ?_ rfl | exact WS.refl _)
      ·
       refine S_on rfl rfl hb70 ?_
       refine S_in ?_
       refine S_m (v := .sl _ _ _) rfl ?_
       refine S_nil ?_
       refine S_on rfl rfl hb70 ?_
       refine S_in ?_
       refine S_m (v := .int _ _) rfl ?_
       refine S_nil ?_
       refine S_on rfl rfl hb70 ?_
       refine S_in ?_
       refine S_bin rfl rfl (ev_sub ..) ?_
       refine S_nil ?_
       refine S_on rfl rfl hb70 ?_
       refine S_in ?_
       refine S_ix rfl rfl ty_sl_22 ty_sz_5 hF (fun x73 _ hF => ?_)
       refine S_nil ?_
       refine S_on rfl rfl hb70 ?_
       refine S_in ?_
       refine S_ldQ rfl (p_one ty_ag_5 ty_sz_5 rfl) ?_
       refine S_nil ?_
       refine S_on rfl rfl hb70 ?_
       refine S_in ?_
       refine S_bin rfl rfl (ev_neq ..) ?_
       refine S_nil ?_
       refine S_pickF (v := .bool _) rfl hb70 rfl ?_
       refine S_nil ?_
       refine ⟨_, hF, .hd (.refl _) ?_⟩
       repeat (first | with_reducible exact WS.refl _ | refine WS.add ?_ rfl | exact WS.refl _)
      ·
       refine S_nil ?_
       refine C_if (b := v72) rfl hF (fun hb74 hF => ?_) (fun hb74 hF => ?_)
       ·
        refine C_reg (mdl [(43, 2)]) ?_
        refine S_m (v := .sl _ _ _) rfl ?_
        refine S_m (v := .sl _ _ _) rfl ?_
        refine S_m (v := .int _ _) rfl ?_
        refine S_ix rfl rfl ty_sl_22 ty_sz_5 hF (fun x75 _ hF => ?_)
        refine S_ldQ rfl (p_one ty_ag_5 ty_sz_5 rfl) ?_
        obtain ⟨b76, hb76, hF⟩ := F_bind hF
        replace hb76 := u8_spec hb76
        refine S_lit0 (es := List.map c_u8 [b76]) rfl ty_el_22 rfl rfl (by simp only [List.map_cons, List.map_nil, c_u8, hb76]; rfl) ?_
        refine S_app (j := 0) ok rfl rfl rfl rfl hg40 ty_el_22 ty_ni_22 hF ?_
        intro r77 hr77 ok hF
        refine S_a (v := .sl _ _ _) rfl ?_
        refine S_nil ?_
        have hwo : WO [(r77, .room)] [(r77, .room)] := (.keep .nil)
        exact ⟨(a39 ++ [b76]), hF, r77, hr77, (hwo.spec ok).1, WS.mk' (.cons (.refl _) (.cons (.refl _) (.cons (.refl _) .nil))) ok hwo⟩
       ·
        refine WP_skip ?_
        have hwo : WO [(g40, .room)] [(g40, .room)] := (.keep .nil)
        exact ⟨a39, hF, g40, hg40, (hwo.spec ok).1, WS.mk' (.cons (.refl _) (.cons (.refl _) (.cons (.refl _) .nil))) ok hwo⟩
    ·
     rintro a61 s' hF ⟨g62, hg62, ok, hws⟩
     refine WP_ws hws ?_
     clear hws s'
     refine C_reg (mdl []) ?_
     refine S_m (v := .int _ _) rfl ?_
     refine S_bin rfl rfl (ev_add ..) ?_
     refine S_a (v := .int _ _) rfl ?_
     refine S_nil ?_
     refine ih45 (a61, (IntKind.wrap .i64 (a41 + (1 : Int)))) _ hF ?_
     have hwo : WO [(g62, .room)] [(g62, .room)] := (.keep .nil)
     exact ⟨g62, hg62, (hwo.spec ok).1, WS.mk' (.cons (.refl _) (.cons (.refl _) (.cons (.refl _) .nil))) ok hwo⟩
   ·
    refine WP_exit ?_
    simp only [Exit.sel, Exit.blk, Exit.jmp, if_true, if_false, reduceIte, Nat.reduceEqDiff, Nat.succ_ne_zero, Nat.zero_ne_one, Nat.one_ne_zero]
    replace hF := hG43 _ (F_some hF)
    have hwo : WO [(g40, .room)] [(g40, .room)] := (.keep .nil)
    exact ⟨a39, hF, g40, hg40, (hwo.spec ok).1, WS.mk' (.cons (.refl _) .nil) ok hwo⟩
 ·
  rintro a36 s' hF ⟨g37, hg37, ok, hws⟩
  refine WP_ws hws ?_
  clear hws s'
  refine C_seq ?_
  refine C_reg (mdl []) ?_
  refine S_m (v := .sl _ _ _) rfl ?_
  refine S_one 44 (v := .sl 1 (List.map c_u8 a36) 0) (.zero _ _ _) ?_
  refine S_a (v := .sl _ _ _) rfl ?_
  refine S_nil ?_
  refine WP_ret ?_
  repeat (first | with_reducible refine Exit.sel_ret ?_ | with_reducible refine Exit.blk_ret ?_ | with_reducible refine Exit.jmp_ret ?_)
  refine C_ret (fn := Tryd.f19) rfl (.tmp (v := .sl 1 (List.map c_u8 a36) 0) rfl .nil) ?_
  exact ⟨_, _, (.refl _), ok.wh, _, F_some hF, rfl, rfl⟩
theorem F_lecternref01_Lines_ok {β : Type} {f : (List UInt8) → Option β} {G : β → Prop} {R : D → Heap → Prop} {p0 : List UInt8} (h : Heap) (hF : OptP ((F_lecternref01_Lines p0).bind f) G) (hk : ∀ r, F_lecternref01_Lines p0 = some r → OptP (f r) G → R (.sl 1 (List.map c_u8 r) 0) h) : CallsA Tryd.prog 19 [.sl 1 (List.map c_u8 p0) 0] h R := by
 obtain ⟨r0, hr, hF⟩ := F_bind hF
 refine (F_lecternref01_Lines_w (G := fun r => r = r0) p0 h ⟨r0, hr, rfl⟩).mono ?_
 rintro _ _ ⟨r, rfl, rfl, rfl⟩
 exact hk _ hr hF
theorem F_lecternref03_Text_w (p0 : List UInt8) {G : (List UInt8) → Prop} (h : Heap) (hF : OptP (F_lecternref03_Text p0) G) : CallsA Tryd.prog 10 [.sl 1 (List.map c_u8 p0) 0] h fun d h' => ∃ r, G r ∧ d = .str r ∧ h' = h := by
 refine CallsA.ret ?_
 refine C_body Tryd.func10 rfl en_10 Tryd.ntmps10 rfl (fun ok => ?_)
 rw [F_lecternref03_Text] at hF
 refine C_seq ?_
 refine C_reg (mdl []) ?_
 refine S_a (v := .str ([] : List UInt8)) rfl ?_
 refine S_nil ?_
 refine C_join hF (fun (a15 : (List UInt8)) s' => OK h [] ∧ WS s' ⟨mkSl 29 [(0, .sl 1 (List.map c_u8 a15) 0)], Hp h []⟩) (fun J16 hF => ?_) ?_
 ·
  refine C_seq ?_
  refine C_reg (mdl []) ?_
  refine S_m (v := .sl _ _ _) rfl ?_
  refine S_lenL rfl ty_sl_22 ?_
  refine S_bin rfl rfl (ev_geq ..) ?_
  refine S_m (v := .bool _) rfl ?_
  refine S_twoJ 5 11 hF (fun J18 hb17 hF => ?_) (fun J18 hb17 hF => ?_) (fun v19 hF => ?_)
  ·
   refine S_on rfl rfl hb17 ?_
   refine S_in ?_
   refine S_m (v := .sl _ _ _) rfl ?_
   refine S_nil ?_
   refine S_on rfl rfl hb17 ?_
   refine S_in ?_
   refine S_ix rfl rfl ty_sl_22 ty_sz_5 hF (fun x20 _ hF => ?_)
   refine S_nil ?_
   refine S_on rfl rfl hb17 ?_
   refine S_in ?_
   refine S_ldQ rfl (p_one ty_ag_5 ty_sz_5 rfl) ?_
   refine S_nil ?_
   refine S_on rfl rfl hb17 ?_
   refine S_in ?_
   refine S_bin rfl rfl (ev_eql ..) ?_
   refine S_nil ?_
   refine S_pickT (v := .bool _) rfl hb17 rfl ?_
   refine S_nil ?_
   refine ⟨_, hF, .hd (.refl _) ?_⟩
   repeat (first | with_reducible exact WS.refl _ | refine WS.add ?_ rfl | exact WS.refl _)
  ·
   refine S_off rfl rfl hb17 ?_
   refine S_offD ?_
   refine S_off rfl rfl hb17 ?_
   refine S_offD ?_
   refine S_off rfl rfl hb17 ?_
   refine S_offD ?_
   refine S_off rfl rfl hb17 ?_
   refine S_offD ?_
   refine S_pickF (v := .bool _) rfl hb17 rfl ?_
   refine S_nil ?_
   refine ⟨_, hF, .hd (.refl _) ?_⟩
   repeat (first | with_reducible exact WS.refl _ | refine WS.add ?_ rfl | exact WS.refl _)
  ·
   refine S_m (v := .bool _) rfl ?_
   refine S_twoJ 5 17 hF (fun J22 hb21 hF => ?_) (fun J22 hb21 hF => ?_) (fun v23 hF => ?_)
   ·
    refine S_on rfl rfl hb21 ?_
    refine S_in ?_
    refine S_m (v := .sl _ _ _) rfl ?_
    refine S_nil ?_
    refine S_on rfl rfl hb21 ?_
    refine S_in ?_
    refine S_ix rfl rfl ty_sl_22 ty_sz_5 hF (fun x24 _ hF => ?_)
    refine S_nil ?_
    refine S_on rfl rfl hb21 ?_
    refine S_in ?_
    refine S_ldQ rfl (p_one ty_ag_5 ty_sz_5 rfl) ?_
    refine S_nil ?_
    refine S_on rfl rfl hb21 ?_
    refine S_in ?_
    refine S_bin rfl rfl (ev_eql ..) ?_
    refine S_nil ?_
    refine S_pickT (v := .bool _) rfl hb21 rfl ?_
    refine S_nil ?_
    refine ⟨_, hF, .hd (.refl _) ?_⟩
    repeat (first | with_reducible exact WS.refl _ | refine WS.add ?_ rfl | exact WS.refl _)
   ·
    refine S_off rfl rfl hb21 ?_
    refine S_offD ?_
    refine S_off rfl rfl hb21 ?_
    refine S_offD ?_
    refine S_off rfl rfl hb21 ?_
    refine S_offD ?_
    refine S_off rfl rfl hb21 ?_
    refine S_offD ?_
    refine S_pickF (v := .bool _) rfl hb21 rfl ?_
    refine S_nil ?_
    refine ⟨_, hF, .hd (.refl _) ?_⟩
    repeat (first | with_reducible exact WS.refl _ | refine WS.add ?_ rfl | exact WS.refl _)
   ·
    refine S_m (v := .bool _) rfl ?_
    refine S_twoJ 5 23 hF (fun J26 hb25 hF => ?_) (fun J26 hb25 hF => ?_) (fun v27 hF => ?_)
    ·
     refine S_on rfl rfl hb25 ?_
     refine S_in ?_
     refine S_m (v := .sl _ _ _) rfl ?_
     refine S_nil ?_
     refine S_on rfl rfl hb25 ?_
     refine S_in ?_
     refine S_ix rfl rfl ty_sl_22 ty_sz_5 hF (fun x28 _ hF => ?_)
     refine S_nil ?_
     refine S_on rfl rfl hb25 ?_
     refine S_in ?_
     refine S_ldQ rfl (p_one ty_ag_5 ty_sz_5 rfl) ?_
     refine S_nil ?_
     refine S_on rfl rfl hb25 ?_
     refine S_in ?_
     refine S_bin rfl rfl (ev_eql ..) ?_
     refine S_nil ?_
     refine S_pickT (v := .bool _) rfl hb25 rfl ?_
     refine S_nil ?_
     refine ⟨_, hF, .hd (.refl _) ?_⟩
     repeat (first | with_reducible exact WS.refl _ | refine WS.add ?_ rfl | exact WS.refl _)
    ·
     refine S_off rfl rfl hb25 ?_
     refine S_offD ?_
     refine S_off rfl rfl hb25 ?_
     refine S_offD ?_
     refine S_off rfl rfl hb25 ?_
     refine S_offD ?_
     refine S_off rfl rfl hb25 ?_
     refine S_offD ?_
     refine S_pickF (v := .bool _) rfl hb25 rfl ?_
     refine S_nil ?_
     refine ⟨_, hF, .hd (.refl _) ?_⟩
     repeat (first | with_reducible exact WS.refl _ | refine WS.add ?_ rfl | exact WS.refl _)
    ·
     refine S_nil ?_
     refine C_if (b := v27) rfl hF (fun hb29 hF => ?_) (fun hb29 hF => ?_)
     ·
      refine C_reg (mdl []) ?_
      refine S_m (v := .sl _ _ _) rfl ?_
      refine S_slL rfl ty_sl_22 ty_sz_5 (bd_at rfl) bd_len hF (fun x30 _ hF => ?_)
      refine S_a (v := .sl _ _ _) rfl ?_
      refine S_nil ?_
      have hwo : WO [] [] := .nil
      exact ⟨x30, hF, (hwo.spec ok).1, WS.mk' (.cons (.refl _) .nil) ok hwo⟩
     ·
      refine WP_skip ?_
      have hwo : WO [] [] := .nil
      exact ⟨p0, hF, (hwo.spec ok).1, WS.mk' (.cons (.refl _) .nil) ok hwo⟩
 ·
  rintro a15 s' hF ⟨ok, hws⟩
  refine WP_ws hws ?_
  clear hws s'
  refine C_seq ?_
  refine C_reg (mdl []) ?_
  refine S_m (v := .sl _ _ _) rfl ?_
  refine S_call (F_lecternref01_Lines_ok _ hF fun x31 _ hF => ?_) (.cons (.refl _) (.nil))
  refine S_conv rfl (e_cbs ty_sl_22 ty_ki_5 ty_st_9) ?_
  refine S_a (v := .str _) rfl ?_
  refine S_nil ?_
  refine WP_ret ?_
  repeat (first | with_reducible refine Exit.sel_ret ?_ | with_reducible refine Exit.blk_ret ?_ | with_reducible refine Exit.jmp_ret ?_)
  refine C_ret (fn := Tryd.f10) rfl (.tmp (v := .str x31) rfl .nil) ?_
  exact ⟨_, _, (.refl _), ok.wh, _, F_some hF, rfl, rfl⟩
theorem F_lecternref03_Text_ok {β : Type} {f : (List UInt8) → Option β} {G : β → Prop} {R : D → Heap → Prop} {p0 : List UInt8} (h : Heap) (hF : OptP ((F_lecternref03_Text p0).bind f) G) (hk : ∀ r, F_lecternref03_Text p0 = some r → OptP (f r) G → R (.str r) h) : CallsA Tryd.prog 10 [.sl 1 (List.map c_u8 p0) 0] h R := by
 obtain ⟨r0, hr, hF⟩ := F_bind hF
 refine (F_lecternref03_Text_w (G := fun r => r = r0) p0 h ⟨r0, hr, rfl⟩).mono ?_
 rintro _ _ ⟨r, rfl, rfl, rfl⟩
 exact hk _ hr hF
theorem F_lecternlaw03_ScanBars_w (p0 : List UInt8) (p1 : List UInt8) (p2 : Int) {G : Bool → Prop} (h : Heap) (hF : OptP (F_lecternlaw03_ScanBars p0 p1 p2) G) : CallsA Tryd.prog 7 [.sl 1 (List.map c_u8 p0) 0, .sl 1 (List.map c_u8 p1) 0, .int .u8 p2] h fun d h' => ∃ r, G r ∧ d = .bool r := by
 refine CallsA.ret ?_
 refine C_body Tryd.func7 rfl en_7 Tryd.ntmps7 rfl (fun ok => ?_)
 rw [F_lecternlaw03_ScanBars] at hF
 refine C_seq ?_
 refine C_reg (mdl []) ?_
 refine S_a (v := .bool _) rfl ?_
 refine S_nil ?_
 refine C_seq ?_
 refine C_seq ?_
 refine C_reg (mdl []) ?_
 refine S_call (F_lecternlaw03_awake_ok _ hF fun x1 _ hF => ?_) (.nil)
 refine S_un rfl (ev_not _) ?_
 refine S_nil ?_
 refine C_if (b := (!x1)) rfl hF (fun hb2 hF => ?_) (fun hb2 hF => ?_)
 ·
  refine C_seq ?_
  refine C_reg (mdl []) ?_
  refine S_a (v := .bool _) rfl ?_
  refine S_nil ?_
  refine WP_ret ?_
  repeat (first | with_reducible refine Exit.sel_ret ?_ | with_reducible refine Exit.blk_ret ?_ | with_reducible refine Exit.jmp_ret ?_)
  refine C_ret (fn := Tryd.f7) rfl (.tmp (v := .bool false) rfl .nil) ?_
  exact ⟨_, _, (.refl _), WH.refl _, _, F_some hF, rfl⟩
 ·
  refine WP_skip ?_
  refine C_seq ?_
  refine C_reg (mdl []) ?_
  refine S_m (v := .sl _ _ _) rfl ?_
  refine S_call (F_scan_All_ok _ hF fun x3 _ hF => ?_) (.cons (.refl _) (.nil))
  refine S_m (v := .tup _) rfl ?_
  refine S_ext rfl rfl ?_
  refine S_ext rfl rfl ?_
  refine S_ext rfl rfl ?_
  refine S_a (v := .sl _ _ _) rfl ?_
  refine S_a (v := .int _ _) rfl ?_
  refine S_a (v := .int _ _) rfl ?_
  refine S_nil ?_
  refine C_seq ?_
  refine C_seq ?_
  refine C_reg (mdl []) ?_
  refine S_m (v := .int _ _) rfl ?_
  refine S_bin rfl rfl (ev_neq ..) ?_
  refine S_m (v := .bool _) rfl ?_
  refine S_two (b := (x3.2.2 != (0 : Int))) 8 39 (.bool ((x3.2.2 != (0 : Int)) || (decide ((65536 : Int) < (IntKind.wrap .i64 ((IntKind.wrap .i64 ((p0.length : Int) + (p1.length : Int))) + (20 : Int))))))) (fun hb4 => ?_) (fun hb4 => ?_) ?_
  ·
   refine S_off rfl rfl hb4 ?_
   refine S_offD ?_
   refine S_off rfl rfl hb4 ?_
   refine S_offD ?_
   refine S_off rfl rfl hb4 ?_
   refine S_offD ?_
   refine S_off rfl rfl hb4 ?_
   refine S_offD ?_
   refine S_off rfl rfl hb4 ?_
   refine S_offD ?_
   refine S_off rfl rfl hb4 ?_
   refine S_offD ?_
   refine S_off rfl rfl hb4 ?_
   refine S_offD ?_
   refine S_pickT (v := .bool _) rfl hb4 rfl ?_
   refine S_nil ?_
   refine .hd (or_t hb4) ?_
   repeat (first | with_reducible exact WS.refl _ | refine WS.add ?_ rfl | exact WS.refl _)
  ·
   refine S_on rfl rfl hb4 ?_
   refine S_in ?_
   refine S_m (v := .sl _ _ _) rfl ?_
   refine S_nil ?_
   refine S_on rfl rfl hb4 ?_
   refine S_in ?_
   refine S_lenL rfl ty_sl_22 ?_
   refine S_nil ?_
   refine S_on rfl rfl hb4 ?_
   refine S_in ?_
   refine S_m (v := .sl _ _ _) rfl ?_
   refine S_nil ?_
   refine S_on rfl rfl hb4 ?_
   refine S_in ?_
   refine S_lenL rfl ty_sl_22 ?_
   refine S_nil ?_
   refine S_on rfl rfl hb4 ?_
   refine S_in ?_
   refine S_bin rfl rfl (ev_add ..) ?_
   refine S_nil ?_
   refine S_on rfl rfl hb4 ?_
   refine S_in ?_
   refine S_bin rfl rfl (ev_add ..) ?_
   refine S_nil ?_
   refine S_on rfl rfl hb4 ?_
   refine S_in ?_
   refine S_bin rfl rfl (ev_gtr ..) ?_
   refine S_nil ?_
   refine S_pickF (v := .bool _) rfl hb4 rfl ?_
   refine S_nil ?_
   refine .hd (or_f hb4) ?_
   repeat (first | with_reducible exact WS.refl _ | refine WS.add ?_ rfl | exact WS.refl _)
  refine S_nil ?_
  refine C_if (b := ((x3.2.2 != (0 : Int)) || (decide ((65536 : Int) < (IntKind.wrap .i64 ((IntKind.wrap .i64 ((p0.length : Int) + (p1.length : Int))) + (20 : Int))))))) rfl hF (fun hb5 hF => ?_) (fun hb5 hF => ?_)
  ·
   refine C_seq ?_
   refine C_reg (mdl []) ?_
   refine S_a (v := .bool _) rfl ?_
   refine S_nil ?_
   refine WP_ret ?_
   repeat (first | with_reducible refine Exit.sel_ret ?_ | with_reducible refine Exit.blk_ret ?_ | with_reducible refine Exit.jmp_ret ?_)
   refine C_ret (fn := Tryd.f7) rfl (.tmp (v := .bool true) rfl .nil) ?_
   exact ⟨_, _, (.refl _), WH.refl _, _, F_some hF, rfl⟩
  ·
   refine WP_skip ?_
   refine C_seq ?_
   refine C_reg (mdl []) ?_
   refine S_m (v := .sl _ _ _) rfl ?_
   refine S_call (F_lecternref01_Fault_ok _ hF fun x6 _ hF => ?_) (.cons (.refl _) (.nil))
   refine S_m (v := .tup _) rfl ?_
   refine S_ext rfl rfl ?_
   refine S_ext rfl rfl ?_
   refine S_a (v := .int _ _) rfl ?_
   refine S_a (v := .int _ _) rfl ?_
   refine S_nil ?_
   refine C_seq ?_
   refine C_seq ?_
   refine C_reg (mdl []) ?_
   refine S_m (v := .int _ _) rfl ?_
   refine S_bin rfl rfl (ev_neq ..) ?_
   refine S_nil ?_
   refine C_if (b := (x6.2 != (0 : Int))) rfl hF (fun hb7 hF => ?_) (fun hb7 hF => ?_)
   ·
    refine C_seq ?_
    refine C_reg (mdl []) ?_
    refine S_a (v := .bool _) rfl ?_
    refine S_nil ?_
    refine WP_ret ?_
    repeat (first | with_reducible refine Exit.sel_ret ?_ | with_reducible refine Exit.blk_ret ?_ | with_reducible refine Exit.jmp_ret ?_)
    refine C_ret (fn := Tryd.f7) rfl (.tmp (v := .bool true) rfl .nil) ?_
    exact ⟨_, _, (.refl _), WH.refl _, _, F_some hF, rfl⟩
   ·
    refine WP_skip ?_
    refine C_seq ?_
    refine C_reg (mdl []) ?_
    refine S_bld (v := .agg (List.map D.str ([([60, 33, 68, 79, 67, 84, 89, 80, 69] : List UInt8), ([60, 33, 69, 76, 69, 77, 69, 78, 84] : List UInt8), ([60, 33, 91, 73, 78, 67, 76, 85, 68, 69, 91] : List UInt8), ([60, 32] : List UInt8)] : List (List UInt8)))) (b_arr ty_zc_49 ty_pl_49 ty_ar_49 ty_sz_9 rfl) ?_
    refine S_m (v := .int _ _) rfl ?_
    refine S_bin rfl rfl (e_rem rfl) ?_
    refine S_ixN (g := D.str) rfl rfl ty_ar_49 ty_sz_9 ty_ag_9 hF (fun x8 _ hF => ?_)
    refine S_a (v := .str _) rfl ?_
    refine S_nil ?_
    refine C_seq ?_
    refine C_seq ?_
    refine C_reg (mdl []) ?_
    refine S_m (v := .sl _ _ _) rfl ?_
    refine S_lenL rfl ty_sl_22 ?_
    refine S_bin rfl rfl (ev_gtr ..) ?_
    refine S_m (v := .bool _) rfl ?_
    refine S_twoJ 8 62 hF (fun J10 hb9 hF => ?_) (fun J10 hb9 hF => ?_) (fun v11 hF => ?_)
    ·
     refine S_on rfl rfl hb9 ?_
     refine S_in ?_
     refine S_m (v := .sl _ _ _) rfl ?_
     refine S_nil ?_
     refine S_on rfl rfl hb9 ?_
     refine S_in ?_
     refine S_m (v := .sl _ _ _) rfl ?_
     refine S_nil ?_
     refine S_on rfl rfl hb9 ?_
     refine S_in ?_
     refine S_lenL rfl ty_sl_22 ?_
     refine S_nil ?_
     refine S_on rfl rfl hb9 ?_
     refine S_in ?_
     refine S_bin rfl rfl (ev_sub ..) ?_
     refine S_nil ?_
     refine S_on rfl rfl hb9 ?_
     refine S_in ?_
     refine S_ix rfl rfl ty_sl_22 ty_sz_5 hF (fun x12 _ hF => ?_)
     refine S_nil ?_
     refine S_on rfl rfl hb9 ?_
     refine S_in ?_
     refine S_ldQ rfl (p_one ty_ag_5 ty_sz_5 rfl) ?_
     refine S_nil ?_
     refine S_on rfl rfl hb9 ?_
     refine S_in ?_
     refine S_bin rfl rfl (ev_eql ..) ?_
     refine S_nil ?_
     refine S_pickT (v := .bool _) rfl hb9 rfl ?_
     refine S_nil ?_
     refine ⟨_, hF, .hd (.refl _) ?_⟩
     repeat (first | with_reducible exact WS.refl _ | refine WS.add ?_ rfl | exact WS.refl _)
    ·
     refine S_off rfl rfl hb9 ?_
     refine S_offD ?_
     refine S_off rfl rfl hb9 ?_
     refine S_offD ?_
     refine S_off rfl rfl hb9 ?_
     refine S_offD ?_
     refine S_off rfl rfl hb9 ?_
     refine S_offD ?_
     refine S_off rfl rfl hb9 ?_
     refine S_offD ?_
     refine S_off rfl rfl hb9 ?_
     refine S_offD ?_
     refine S_off rfl rfl hb9 ?_
     refine S_offD ?_
     refine S_pickF (v := .bool _) rfl hb9 rfl ?_
     refine S_nil ?_
     refine ⟨_, hF, .hd (.refl _) ?_⟩
     repeat (first | with_reducible exact WS.refl _ | refine WS.add ?_ rfl | exact WS.refl _)
    ·
     refine S_nil ?_
     refine C_if (b := v11) rfl hF (fun hb13 hF => ?_) (fun hb13 hF => ?_)
     ·
      refine C_seq ?_
      refine C_reg (mdl []) ?_
      refine S_a (v := .bool _) rfl ?_
      refine S_nil ?_
      refine WP_ret ?_
      repeat (first | with_reducible refine Exit.sel_ret ?_ | with_reducible refine Exit.blk_ret ?_ | with_reducible refine Exit.jmp_ret ?_)
      refine C_ret (fn := Tryd.f7) rfl (.tmp (v := .bool true) rfl .nil) ?_
      exact ⟨_, _, (.refl _), WH.refl _, _, F_some hF, rfl⟩
     ·
      refine WP_skip ?_
      refine C_seq ?_
      refine C_reg (mdl [(63, 2), (65, 2), (67, 2), (69, 2)]) ?_
      refine S_lit2 (es := List.map c_u8 []) ok rfl ty_el_22 rfl rfl (by simp only [List.map_cons, List.map_nil, c_u8, ]; rfl) ?_
      intro r14 hr14 ok
      refine S_m (v := .sl _ _ _) rfl ?_
      refine S_app (j := 0) ok rfl rfl rfl rfl hr14 ty_el_22 ty_ni_22 hF ?_
      intro r15 hr15 ok hF
      refine S_m (v := .str _) rfl ?_
      refine S_appS (j := 0) ok rfl rfl rfl rfl hr15 ty_el_22 ty_ni_9 hF ?_
      intro r16 hr16 ok hF
      refine S_m (v := .sl _ _ _) rfl ?_
      refine S_app (j := 0) ok rfl rfl rfl rfl hr16 ty_el_22 ty_ni_22 hF ?_
      intro r17 hr17 ok hF
      refine S_a (v := .sl _ _ _) rfl ?_
      refine S_one 13 (v := .sl 1 (List.map c_u8 (((([] : List UInt8) ++ p0) ++ x8) ++ p1)) 0) (.zero _ _ _) ?_
      refine S_nil ?_
      refine C_seq ?_
      refine C_reg (mdl []) ?_
      refine S_m (v := .sl _ _ _) rfl ?_
      refine S_call (F_scan_All_ok _ hF fun x18 _ hF => ?_) (.cons (.refl _) (.nil))
      refine S_m (v := .tup _) rfl ?_
      refine S_ext rfl rfl ?_
      refine S_ext rfl rfl ?_
      refine S_ext rfl rfl ?_
      refine S_a (v := .sl _ _ _) rfl ?_
      refine S_a (v := .int _ _) rfl ?_
      refine S_a (v := .int _ _) rfl ?_
      refine S_nil ?_
      refine C_seq ?_
      refine C_reg (mdl []) ?_
      refine S_a (v := .int _ _) rfl ?_
      refine S_nil ?_
      refine C_join hF (fun (a20 : Int) s' => OK h [] ∧ WS s' ⟨mkSl 114 [(0, .sl 1 (List.map c_u8 p0) 0), (7, .sl 6 (List.map c_T_scan_Token x3.1) 0), (15, .int .i64 x18.2.1), (16, .int .i64 x18.2.2), (17, .int .i64 a20)], Hp h []⟩) (fun J21 hF => ?_) ?_
      ·
       refine C_seq ?_
       refine C_reg (mdl []) ?_
       refine S_m (v := .int _ _) rfl ?_
       refine S_bin rfl rfl (e_rem rfl) ?_
       refine S_bin rfl rfl (ev_eql ..) ?_
       refine S_nil ?_
       refine C_if (b := ((Int.tmod p2 (4 : Int)) == (0 : Int))) rfl hF (fun hb22 hF => ?_) (fun hb22 hF => ?_)
       ·
        refine C_reg (mdl []) ?_
        refine S_a (v := .int _ _) rfl ?_
        refine S_nil ?_
        have hwo : WO [(r17, .room)] [] := (.drop .nil)
        exact ⟨(25 : Int), hF, (hwo.spec ok).1, WS.mk' (.cons (.refl _) (.cons (.refl _) (.cons (.refl _) (.cons (.refl _) (.cons (.refl _) .nil))))) ok hwo⟩
       ·
        refine WP_skip ?_
        have hwo : WO [(r17, .room)] [] := (.drop .nil)
        exact ⟨(23 : Int), hF, (hwo.spec ok).1, WS.mk' (.cons (.refl _) (.cons (.refl _) (.cons (.refl _) (.cons (.refl _) (.cons (.refl _) .nil))))) ok hwo⟩
      ·
       rintro a20 s' hF ⟨ok, hws⟩
       refine WP_ws hws ?_
       clear hws s'
       refine C_seq ?_
       refine C_reg (mdl [(79, 2), (81, 2), (83, 2)]) ?_
       refine S_lit2 (es := List.map c_u8 []) ok rfl ty_el_22 rfl rfl (by simp only [List.map_cons, List.map_nil, c_u8, ]; rfl) ?_
       intro r23 hr23 ok
       refine S_m (v := .sl _ _ _) rfl ?_
       refine S_app (j := 0) ok rfl rfl rfl rfl hr23 ty_el_22 ty_ni_22 hF ?_
       intro r24 hr24 ok hF
       obtain ⟨b25, hb25, hF⟩ := F_bind hF
       replace hb25 := u8_spec hb25
       refine S_lit0 (es := List.map c_u8 [b25]) rfl ty_el_22 rfl rfl (by simp only [List.map_cons, List.map_nil, c_u8, hb25]; rfl) ?_
       refine S_app (j := 0) ok rfl rfl rfl rfl hr24 ty_el_22 ty_ni_22 hF ?_
       intro r26 hr26 ok hF
       refine S_a (v := .sl _ _ _) rfl ?_
       refine S_one 13 (v := .sl 1 (List.map c_u8 ((([] : List UInt8) ++ p0) ++ [b25])) 0) (.zero _ _ _) ?_
       refine S_nil ?_
       refine C_seq ?_
       refine C_reg (mdl []) ?_
       refine S_m (v := .sl _ _ _) rfl ?_
       refine S_call (F_scan_All_ok _ hF fun x27 _ hF => ?_) (.cons (.refl _) (.nil))
       refine S_m (v := .tup _) rfl ?_
       refine S_ext rfl rfl ?_
       refine S_ext rfl rfl ?_
       refine S_ext rfl rfl ?_
       refine S_a (v := .sl _ _ _) rfl ?_
       refine S_a (v := .int _ _) rfl ?_
       refine S_a (v := .int _ _) rfl ?_
       refine S_nil ?_
       refine C_seq ?_
       refine C_reg (mdl []) ?_
       refine S_m (v := .int _ _) rfl ?_
       refine S_m (v := .int _ _) rfl ?_
       refine S_bin rfl rfl (ev_eql ..) ?_
       refine S_m (v := .bool _) rfl ?_
       refine S_twoJ 6 99 hF (fun J29 hb28 hF => ?_) (fun J29 hb28 hF => ?_) (fun v30 hF => ?_)
       ·
        refine S_on rfl rfl hb28 ?_
        refine S_in ?_
        refine S_m (v := .int _ _) rfl ?_
        refine S_nil ?_
        refine S_on rfl rfl hb28 ?_
        refine S_in ?_
        refine S_m (v := .sl _ _ _) rfl ?_
        refine S_nil ?_
        refine S_on rfl rfl hb28 ?_
        refine S_in ?_
        refine S_call (F_lecternref03_Text_ok _ hF fun x31 _ hF => ?_) (.cons (.refl _) (.nil))
        refine S_nil ?_
        refine S_on rfl rfl hb28 ?_
        refine S_in ?_
        refine S_lenS rfl ty_st_9 ?_
        refine S_nil ?_
        refine S_on rfl rfl hb28 ?_
        refine S_in ?_
        refine S_bin rfl rfl (ev_eql ..) ?_
        refine S_nil ?_
        refine S_pickT (v := .bool _) rfl hb28 rfl ?_
        refine S_nil ?_
        refine ⟨_, hF, .hd (.refl _) ?_⟩
        repeat (first | with_reducible exact WS.refl _ | refine WS.add ?_ rfl | exact WS.refl _)
       ·
        refine S_off rfl rfl hb28 ?_
        refine S_offD ?_
        refine S_off rfl rfl hb28 ?_
        refine S_offD ?_
        refine S_off rfl rfl hb28 ?_
        refine S_offD ?_
        refine S_off rfl rfl hb28 ?_
        refine S_offD ?_
        refine S_off rfl rfl hb28 ?_
        refine S_offD ?_
        refine S_pickF (v := .bool _) rfl hb28 rfl ?_
        refine S_nil ?_
        refine ⟨_, hF, .hd (.refl _) ?_⟩
        repeat (first | with_reducible exact WS.refl _ | refine WS.add ?_ rfl | exact WS.refl _)
       ·
        refine S_m (v := .bool _) rfl ?_
        refine S_two (b := v30) 4 104 (.bool (v30 && (decide ((0 : Int) ≤ (x3.1.length : Int))))) (fun hb32 => ?_) (fun hb32 => ?_) ?_
        ·
         refine S_on rfl rfl hb32 ?_
         refine S_in ?_
         refine S_m (v := .sl _ _ _) rfl ?_
         refine S_nil ?_
         refine S_on rfl rfl hb32 ?_
         refine S_in ?_
         refine S_lenL rfl ty_sl_24 ?_
         refine S_nil ?_
         refine S_on rfl rfl hb32 ?_
         refine S_in ?_
         refine S_bin rfl rfl (ev_geq ..) ?_
         refine S_nil ?_
         refine S_pickT (v := .bool _) rfl hb32 rfl ?_
         refine S_nil ?_
         refine .hd (and_t hb32) ?_
         repeat (first | with_reducible exact WS.refl _ | refine WS.add ?_ rfl | exact WS.refl _)
        ·
         refine S_off rfl rfl hb32 ?_
         refine S_offD ?_
         refine S_off rfl rfl hb32 ?_
         refine S_offD ?_
         refine S_off rfl rfl hb32 ?_
         refine S_offD ?_
         refine S_pickF (v := .bool _) rfl hb32 rfl ?_
         refine S_nil ?_
         refine .hd (and_f hb32) ?_
         repeat (first | with_reducible exact WS.refl _ | refine WS.add ?_ rfl | exact WS.refl _)
        refine S_m (v := .bool _) rfl ?_
        refine S_two (b := (v30 && (decide ((0 : Int) ≤ (x3.1.length : Int))))) 3 108 (.bool ((v30 && (decide ((0 : Int) ≤ (x3.1.length : Int)))) && (x27.2.2 == (21 : Int)))) (fun hb33 => ?_) (fun hb33 => ?_) ?_
        ·
         refine S_on rfl rfl hb33 ?_
         refine S_in ?_
         refine S_m (v := .int _ _) rfl ?_
         refine S_nil ?_
         refine S_on rfl rfl hb33 ?_
         refine S_in ?_
         refine S_bin rfl rfl (ev_eql ..) ?_
         refine S_nil ?_
         refine S_pickT (v := .bool _) rfl hb33 rfl ?_
         refine S_nil ?_
         refine .hd (and_t hb33) ?_
         repeat (first | with_reducible exact WS.refl _ | refine WS.add ?_ rfl | exact WS.refl _)
        ·
         refine S_off rfl rfl hb33 ?_
         refine S_offD ?_
         refine S_off rfl rfl hb33 ?_
         refine S_offD ?_
         refine S_pickF (v := .bool _) rfl hb33 rfl ?_
         refine S_nil ?_
         refine .hd (and_f hb33) ?_
         repeat (first | with_reducible exact WS.refl _ | refine WS.add ?_ rfl | exact WS.refl _)
        refine S_m (v := .bool _) rfl ?_
        refine S_two (b := ((v30 && (decide ((0 : Int) ≤ (x3.1.length : Int)))) && (x27.2.2 == (21 : Int)))) 4 113 (.bool (((v30 && (decide ((0 : Int) ≤ (x3.1.length : Int)))) && (x27.2.2 == (21 : Int))) && ((x27.1.length : Int) == (0 : Int)))) (fun hb34 => ?_) (fun hb34 => ?_) ?_
        ·
         refine S_on rfl rfl hb34 ?_
         refine S_in ?_
         refine S_m (v := .sl _ _ _) rfl ?_
         refine S_nil ?_
         refine S_on rfl rfl hb34 ?_
         refine S_in ?_
         refine S_lenL rfl ty_sl_24 ?_
         refine S_nil ?_
         refine S_on rfl rfl hb34 ?_
         refine S_in ?_
         refine S_bin rfl rfl (ev_eql ..) ?_
         refine S_nil ?_
         refine S_pickT (v := .bool _) rfl hb34 rfl ?_
         refine S_nil ?_
         refine .hd (and_t hb34) ?_
         repeat (first | with_reducible exact WS.refl _ | refine WS.add ?_ rfl | exact WS.refl _)
        ·
         refine S_off rfl rfl hb34 ?_
         refine S_offD ?_
         refine S_off rfl rfl hb34 ?_
         refine S_offD ?_
         refine S_off rfl rfl hb34 ?_
         refine S_offD ?_
         refine S_pickF (v := .bool _) rfl hb34 rfl ?_
         refine S_nil ?_
         refine .hd (and_f hb34) ?_
         repeat (first | with_reducible exact WS.refl _ | refine WS.add ?_ rfl | exact WS.refl _)
        refine S_a (v := .bool _) rfl ?_
        refine S_nil ?_
        refine WP_ret ?_
        repeat (first | with_reducible refine Exit.sel_ret ?_ | with_reducible refine Exit.blk_ret ?_ | with_reducible refine Exit.jmp_ret ?_)
        refine C_ret (fn := Tryd.f7) rfl (.tmp (v := .bool (((v30 && (decide ((0 : Int) ≤ (x3.1.length : Int)))) && (x27.2.2 == (21 : Int))) && ((x27.1.length : Int) == (0 : Int)))) rfl .nil) ?_
        exact ⟨_, _, (.refl _), WH.refl _, _, F_some hF, rfl⟩
end Go.Proofs.YtfokkdofcekdbaaDoor
