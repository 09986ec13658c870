/- The walks. No condition. -/
import Derived.Test.YtfokkdofcekdbaaDoorWk1
set_option linter.unusedVariables false
set_option linter.unusedSimpArgs false
set_option maxRecDepth 20000
set_option maxHeartbeats 8000000
namespace Go.Proofs.YtfokkdofcekdbaaDoor
theorem F_scan_scanner_closing_ok {β : Type} {f0 : Int × T_scan_scanner × T_scan_Token → Option β} {G : β → Prop} {R : D → Heap → Prop} {p0 : T_scan_scanner} {p1 : T_scan_Token} {q0 : Nat} {q1 : Nat} {b1_3 : Nat} (h : Heap) (O : List (Nat × AObj)) (hq0 : q0 ≠ 0) (hq1 : q1 ≠ 0) (zb1_3 : b1_3 = 0 → p1.Pairs = []) (ok : OK h ((q0, .cells [.sl 1 (List.map c_u8 p0.b) 0, .int .i64 p0.at_]) :: (q1, .cells [.int .i64 p1.Kind, .int .i64 p1.At, .str p1.Name, mslO 2 b1_3 p1.Pairs, .str p1.Text, .int .i64 p1.Refs]) :: mo b1_3 c_T_scan_Pair p1.Pairs :: O)) (hF : OptP ((F_scan_scanner_closing p0 p1).bind f0) G) (hk : ∀ r b1_3', F_scan_scanner_closing p0 p1 = some r → (b1_3' = 0 → r.2.2.Pairs = []) → OK h ((q0, .cells [.sl 1 (List.map c_u8 r.2.1.b) 0, .int .i64 r.2.1.at_]) :: (q1, .cells [.int .i64 r.2.2.Kind, .int .i64 r.2.2.At, .str r.2.2.Name, mslO 2 b1_3' r.2.2.Pairs, .str r.2.2.Text, .int .i64 r.2.2.Refs]) :: mo b1_3' c_T_scan_Pair r.2.2.Pairs :: O) → OptP (f0 r) G → R (.int .i64 r.1) (Hp h ((q0, .cells [.sl 1 (List.map c_u8 r.2.1.b) 0, .int .i64 r.2.1.at_]) :: (q1, .cells [.int .i64 r.2.2.Kind, .int .i64 r.2.2.At, .str r.2.2.Name, mslO 2 b1_3' r.2.2.Pairs, .str r.2.2.Text, .int .i64 r.2.2.Refs]) :: mo b1_3' c_T_scan_Pair r.2.2.Pairs :: O))) : CallsA Tryd.prog 34 [.ptr q0 0, .ptr q1 0] (Hp h ((q0, .cells [.sl 1 (List.map c_u8 p0.b) 0, .int .i64 p0.at_]) :: (q1, .cells [.int .i64 p1.Kind, .int .i64 p1.At, .str p1.Name, mslO 2 b1_3 p1.Pairs, .str p1.Text, .int .i64 p1.Refs]) :: mo b1_3 c_T_scan_Pair p1.Pairs :: O)) R := by
 obtain ⟨r0, hr, hF⟩ := F_bind hF
 refine (F_scan_scanner_closing_w (G := fun r => r = r0) p0 p1 q0 q1 b1_3 h O hq0 hq1 zb1_3 ok ⟨r0, hr, rfl⟩).mono ?_
 rintro _ _ ⟨r, rfl, rfl, b1_3', y0, ok', rfl⟩
 exact hk _ _ hr y0 ok' hF
theorem F_refer_digit_w (p0 : Int) {G : Int → Prop} (h : Heap) (hF : OptP (F_refer_digit p0) G) : CallsA Tryd.prog 98 [.int .u8 p0] h fun d h' => ∃ r, G r ∧ d = .int .i64 r ∧ h' = h := by
 refine CallsA.ret ?_
 refine C_body Tryd.func98 rfl en_98 Tryd.ntmps98 rfl (fun ok => ?_)
 rw [F_refer_digit] at hF
 refine C_seq ?_
 refine C_reg (mdl []) ?_
 refine S_a (v := .int _ _) rfl ?_
 refine S_nil ?_
 refine C_seq ?_
 refine WP_block ?_
 refine C_seq ?_
 refine C_reg (mdl []) ?_
 refine S_m (v := .int _ _) rfl ?_
 refine S_bin rfl rfl (ev_geq ..) ?_
 refine S_m (v := .bool _) rfl ?_
 refine S_two (b := (decide ((48 : Int) ≤ p0))) 3 9 (.bool ((decide ((48 : Int) ≤ p0)) && (decide (p0 ≤ (57 : Int))))) (fun hb1 => ?_) (fun hb1 => ?_) ?_
 ·
  refine S_on rfl rfl hb1 ?_
  refine S_in ?_
  refine S_m (v := .int _ _) rfl ?_
  refine S_nil ?_
  refine S_on rfl rfl hb1 ?_
  refine S_in ?_
  refine S_bin rfl rfl (ev_leq ..) ?_
  refine S_nil ?_
  refine S_pickT (v := .bool _) rfl hb1 rfl ?_
  refine S_nil ?_
  refine .hd (and_t hb1) ?_
  repeat (first | with_reducible exact WS.refl _ | refine WS.add ?_ rfl | exact WS.refl _)
 ·
  refine S_off rfl rfl hb1 ?_
  refine S_offD ?_
  refine S_off rfl rfl hb1 ?_
  refine S_offD ?_
  refine S_pickF (v := .bool _) rfl hb1 rfl ?_
  refine S_nil ?_
  refine .hd (and_f hb1) ?_
  repeat (first | with_reducible exact WS.refl _ | refine WS.add ?_ rfl | exact WS.refl _)
 refine S_a (v := .bool _) rfl ?_
 refine S_nil ?_
 refine C_if (b := ((decide ((48 : Int) ≤ p0)) && (decide (p0 ≤ (57 : Int))))) rfl hF (fun hb2 hF => ?_) (fun hb2 hF => ?_)
 ·
  refine C_seq ?_
  refine C_reg (mdl []) ?_
  refine S_m (v := .int _ _) rfl ?_
  refine S_bin rfl rfl (ev_sub ..) ?_
  refine S_conv rfl (e_ci ty_ki_3 ty_un_5) ?_
  refine S_a (v := .int _ _) rfl ?_
  refine S_nil ?_
  refine WP_ret ?_
  repeat (first | with_reducible refine Exit.sel_ret ?_ | with_reducible refine Exit.blk_ret ?_ | with_reducible refine Exit.jmp_ret ?_)
  refine C_ret (fn := Tryd.f98) rfl (.tmp (v := .int .i64 (IntKind.wrap .i64 (IntKind.wrap .u8 (p0 - (48 : Int))))) rfl .nil) ?_
  exact ⟨_, _, (.refl _), ok.wh, _, F_some hF, rfl, rfl⟩
 ·
  refine C_seq ?_
  refine C_reg (mdl []) ?_
  refine S_m (v := .int _ _) rfl ?_
  refine S_bin rfl rfl (ev_geq ..) ?_
  refine S_m (v := .bool _) rfl ?_
  refine S_two (b := (decide ((97 : Int) ≤ p0))) 3 19 (.bool ((decide ((97 : Int) ≤ p0)) && (decide (p0 ≤ (102 : Int))))) (fun hb3 => ?_) (fun hb3 => ?_) ?_
  ·
   refine S_on rfl rfl hb3 ?_
   refine S_in ?_
   refine S_m (v := .int _ _) rfl ?_
   refine S_nil ?_
   refine S_on rfl rfl hb3 ?_
   refine S_in ?_
   refine S_bin rfl rfl (ev_leq ..) ?_
   refine S_nil ?_
   refine S_pickT (v := .bool _) rfl hb3 rfl ?_
   refine S_nil ?_
   refine .hd (and_t hb3) ?_
   repeat (first | with_reducible exact WS.refl _ | refine WS.add ?_ rfl | exact WS.refl _)
  ·
   refine S_off rfl rfl hb3 ?_
   refine S_offD ?_
   refine S_off rfl rfl hb3 ?_
   refine S_offD ?_
   refine S_pickF (v := .bool _) rfl hb3 rfl ?_
   refine S_nil ?_
   refine .hd (and_f hb3) ?_
   repeat (first | with_reducible exact WS.refl _ | refine WS.add ?_ rfl | exact WS.refl _)
  refine S_a (v := .bool _) rfl ?_
  refine S_nil ?_
  refine C_if (b := ((decide ((97 : Int) ≤ p0)) && (decide (p0 ≤ (102 : Int))))) rfl hF (fun hb4 hF => ?_) (fun hb4 hF => ?_)
  ·
   refine C_seq ?_
   refine C_reg (mdl []) ?_
   refine S_m (v := .int _ _) rfl ?_
   refine S_bin rfl rfl (ev_sub ..) ?_
   refine S_conv rfl (e_ci ty_ki_3 ty_un_5) ?_
   refine S_bin rfl rfl (ev_add ..) ?_
   refine S_a (v := .int _ _) rfl ?_
   refine S_nil ?_
   refine WP_ret ?_
   repeat (first | with_reducible refine Exit.sel_ret ?_ | with_reducible refine Exit.blk_ret ?_ | with_reducible refine Exit.jmp_ret ?_)
   refine C_ret (fn := Tryd.f98) rfl (.tmp (v := .int .i64 (IntKind.wrap .i64 ((IntKind.wrap .i64 (IntKind.wrap .u8 (p0 - (97 : Int)))) + (10 : Int)))) rfl .nil) ?_
   exact ⟨_, _, (.refl _), ok.wh, _, F_some hF, rfl, rfl⟩
  ·
   refine C_seq ?_
   refine C_reg (mdl []) ?_
   refine S_m (v := .int _ _) rfl ?_
   refine S_bin rfl rfl (ev_geq ..) ?_
   refine S_m (v := .bool _) rfl ?_
   refine S_two (b := (decide ((65 : Int) ≤ p0))) 3 30 (.bool ((decide ((65 : Int) ≤ p0)) && (decide (p0 ≤ (70 : Int))))) (fun hb5 => ?_) (fun hb5 => ?_) ?_
   ·
    refine S_on rfl rfl hb5 ?_
    refine S_in ?_
    refine S_m (v := .int _ _) rfl ?_
    refine S_nil ?_
    refine S_on rfl rfl hb5 ?_
    refine S_in ?_
    refine S_bin rfl rfl (ev_leq ..) ?_
    refine S_nil ?_
    refine S_pickT (v := .bool _) rfl hb5 rfl ?_
    refine S_nil ?_
    refine .hd (and_t hb5) ?_
    repeat (first | with_reducible exact WS.refl _ | refine WS.add ?_ rfl | exact WS.refl _)
   ·
    refine S_off rfl rfl hb5 ?_
    refine S_offD ?_
    refine S_off rfl rfl hb5 ?_
    refine S_offD ?_
    refine S_pickF (v := .bool _) rfl hb5 rfl ?_
    refine S_nil ?_
    refine .hd (and_f hb5) ?_
    repeat (first | with_reducible exact WS.refl _ | refine WS.add ?_ rfl | exact WS.refl _)
   refine S_a (v := .bool _) rfl ?_
   refine S_nil ?_
   refine C_if (b := ((decide ((65 : Int) ≤ p0)) && (decide (p0 ≤ (70 : Int))))) rfl hF (fun hb6 hF => ?_) (fun hb6 hF => ?_)
   ·
    refine C_seq ?_
    refine C_reg (mdl []) ?_
    refine S_m (v := .int _ _) rfl ?_
    refine S_bin rfl rfl (ev_sub ..) ?_
    refine S_conv rfl (e_ci ty_ki_3 ty_un_5) ?_
    refine S_bin rfl rfl (ev_add ..) ?_
    refine S_a (v := .int _ _) rfl ?_
    refine S_nil ?_
    refine WP_ret ?_
    repeat (first | with_reducible refine Exit.sel_ret ?_ | with_reducible refine Exit.blk_ret ?_ | with_reducible refine Exit.jmp_ret ?_)
    refine C_ret (fn := Tryd.f98) rfl (.tmp (v := .int .i64 (IntKind.wrap .i64 ((IntKind.wrap .i64 (IntKind.wrap .u8 (p0 - (65 : Int)))) + (10 : Int)))) rfl .nil) ?_
    exact ⟨_, _, (.refl _), ok.wh, _, F_some hF, rfl, rfl⟩
   ·
    refine WP_skip ?_
    refine C_seq ?_
    refine C_reg (mdl []) ?_
    refine S_a (v := .int _ _) rfl ?_
    refine S_nil ?_
    refine WP_ret ?_
    repeat (first | with_reducible refine Exit.sel_ret ?_ | with_reducible refine Exit.blk_ret ?_ | with_reducible refine Exit.jmp_ret ?_)
    refine C_ret (fn := Tryd.f98) rfl (.tmp (v := .int .i64 (99 : Int)) rfl .nil) ?_
    exact ⟨_, _, (.refl _), ok.wh, _, F_some hF, rfl, rfl⟩
theorem F_refer_digit_ok {β : Type} {f : Int → Option β} {G : β → Prop} {R : D → Heap → Prop} {p0 : Int} (h : Heap) (hF : OptP ((F_refer_digit p0).bind f) G) (hk : ∀ r, F_refer_digit p0 = some r → OptP (f r) G → R (.int .i64 r) h) : CallsA Tryd.prog 98 [.int .u8 p0] h R := by
 obtain ⟨r0, hr, hF⟩ := F_bind hF
 refine (F_refer_digit_w (G := fun r => r = r0) p0 h ⟨r0, hr, rfl⟩).mono ?_
 rintro _ _ ⟨r, rfl, rfl, rfl⟩
 exact hk _ hr hF
theorem F_refer_meant_w (p0 : List UInt8) {G : Int × Int → Prop} (h : Heap) (hF : OptP (F_refer_meant p0) G) : CallsA Tryd.prog 94 [.str p0] h fun d h' => ∃ r, G r ∧ d = .tup [.int .i32 r.1, .int .i64 r.2] ∧ h' = h := by
 refine CallsA.ret ?_
 refine C_body Tryd.func94 rfl en_94 Tryd.ntmps94 rfl (fun ok => ?_)
 rw [F_refer_meant] at hF
 refine C_seq ?_
 refine C_reg (mdl []) ?_
 refine S_a (v := .int _ _) rfl ?_
 refine S_a (v := .int _ _) rfl ?_
 refine S_nil ?_
 refine C_seq ?_
 refine C_seq ?_
 refine C_reg (mdl []) ?_
 refine S_m (v := .str _) rfl ?_
 refine S_nil ?_
 refine WP_block ?_
 refine C_seq ?_
 refine C_reg (mdl []) ?_
 refine S_bin rfl rfl e_seql ?_
 refine S_a (v := .bool _) rfl ?_
 refine S_nil ?_
 refine C_if (b := (p0 == ([108, 116] : List UInt8))) rfl hF (fun hb1 hF => ?_) (fun hb1 hF => ?_)
 ·
  refine C_seq ?_
  refine C_reg (mdl []) ?_
  refine S_a (v := .int _ _) rfl ?_
  refine S_a (v := .int _ _) rfl ?_
  refine S_nil ?_
  refine WP_ret ?_
  repeat (first | with_reducible refine Exit.sel_ret ?_ | with_reducible refine Exit.blk_ret ?_ | with_reducible refine Exit.jmp_ret ?_)
  refine C_ret (fn := Tryd.f94) rfl (.tmp (v := .int .i32 (60 : Int)) rfl (.tmp (v := .int .i64 (0 : Int)) rfl .nil)) ?_
  exact ⟨_, _, (.tupC (.cons (.refl _) (.cons (.refl _) (.nil)))), ok.wh, _, F_some hF, rfl, rfl⟩
 ·
  refine C_seq ?_
  refine C_reg (mdl []) ?_
  refine S_bin rfl rfl e_seql ?_
  refine S_a (v := .bool _) rfl ?_
  refine S_nil ?_
  refine C_if (b := (p0 == ([103, 116] : List UInt8))) rfl hF (fun hb2 hF => ?_) (fun hb2 hF => ?_)
  ·
   refine C_seq ?_
   refine C_reg (mdl []) ?_
   refine S_a (v := .int _ _) rfl ?_
   refine S_a (v := .int _ _) rfl ?_
   refine S_nil ?_
   refine WP_ret ?_
   repeat (first | with_reducible refine Exit.sel_ret ?_ | with_reducible refine Exit.blk_ret ?_ | with_reducible refine Exit.jmp_ret ?_)
   refine C_ret (fn := Tryd.f94) rfl (.tmp (v := .int .i32 (62 : Int)) rfl (.tmp (v := .int .i64 (0 : Int)) rfl .nil)) ?_
   exact ⟨_, _, (.tupC (.cons (.refl _) (.cons (.refl _) (.nil)))), ok.wh, _, F_some hF, rfl, rfl⟩
  ·
   refine C_seq ?_
   refine C_reg (mdl []) ?_
   refine S_bin rfl rfl e_seql ?_
   refine S_a (v := .bool _) rfl ?_
   refine S_nil ?_
   refine C_if (b := (p0 == ([97, 109, 112] : List UInt8))) rfl hF (fun hb3 hF => ?_) (fun hb3 hF => ?_)
   ·
    refine C_seq ?_
    refine C_reg (mdl []) ?_
    refine S_a (v := .int _ _) rfl ?_
    refine S_a (v := .int _ _) rfl ?_
    refine S_nil ?_
    refine WP_ret ?_
    repeat (first | with_reducible refine Exit.sel_ret ?_ | with_reducible refine Exit.blk_ret ?_ | with_reducible refine Exit.jmp_ret ?_)
    refine C_ret (fn := Tryd.f94) rfl (.tmp (v := .int .i32 (38 : Int)) rfl (.tmp (v := .int .i64 (0 : Int)) rfl .nil)) ?_
    exact ⟨_, _, (.tupC (.cons (.refl _) (.cons (.refl _) (.nil)))), ok.wh, _, F_some hF, rfl, rfl⟩
   ·
    refine C_seq ?_
    refine C_reg (mdl []) ?_
    refine S_bin rfl rfl e_seql ?_
    refine S_a (v := .bool _) rfl ?_
    refine S_nil ?_
    refine C_if (b := (p0 == ([97, 112, 111, 115] : List UInt8))) rfl hF (fun hb4 hF => ?_) (fun hb4 hF => ?_)
    ·
     refine C_seq ?_
     refine C_reg (mdl []) ?_
     refine S_a (v := .int _ _) rfl ?_
     refine S_a (v := .int _ _) rfl ?_
     refine S_nil ?_
     refine WP_ret ?_
     repeat (first | with_reducible refine Exit.sel_ret ?_ | with_reducible refine Exit.blk_ret ?_ | with_reducible refine Exit.jmp_ret ?_)
     refine C_ret (fn := Tryd.f94) rfl (.tmp (v := .int .i32 (39 : Int)) rfl (.tmp (v := .int .i64 (0 : Int)) rfl .nil)) ?_
     exact ⟨_, _, (.tupC (.cons (.refl _) (.cons (.refl _) (.nil)))), ok.wh, _, F_some hF, rfl, rfl⟩
    ·
     refine C_seq ?_
     refine C_reg (mdl []) ?_
     refine S_bin rfl rfl e_seql ?_
     refine S_a (v := .bool _) rfl ?_
     refine S_nil ?_
     refine C_if (b := (p0 == ([113, 117, 111, 116] : List UInt8))) rfl hF (fun hb5 hF => ?_) (fun hb5 hF => ?_)
     ·
      refine C_seq ?_
      refine C_reg (mdl []) ?_
      refine S_a (v := .int _ _) rfl ?_
      refine S_a (v := .int _ _) rfl ?_
      refine S_nil ?_
      refine WP_ret ?_
      repeat (first | with_reducible refine Exit.sel_ret ?_ | with_reducible refine Exit.blk_ret ?_ | with_reducible refine Exit.jmp_ret ?_)
      refine C_ret (fn := Tryd.f94) rfl (.tmp (v := .int .i32 (34 : Int)) rfl (.tmp (v := .int .i64 (0 : Int)) rfl .nil)) ?_
      exact ⟨_, _, (.tupC (.cons (.refl _) (.cons (.refl _) (.nil)))), ok.wh, _, F_some hF, rfl, rfl⟩
     ·
      refine WP_skip ?_
      refine C_seq ?_
      refine C_reg (mdl []) ?_
      refine S_m (v := .str _) rfl ?_
      refine S_call (F_strings_CutPrefix_ok _ hF fun x6 _ hF => ?_) (.cons (.refl _) (.cons (.refl _) (.nil)))
      refine S_m (v := .tup _) rfl ?_
      refine S_ext rfl rfl ?_
      refine S_ext rfl rfl ?_
      refine S_a (v := .str _) rfl ?_
      refine S_a (v := .bool _) rfl ?_
      refine S_nil ?_
      refine C_seq ?_
      refine C_reg (mdl []) ?_
      refine S_a (v := .int _ _) rfl ?_
      refine S_nil ?_
      refine C_join hF (fun (v : (List UInt8) × Int) s' => match v with | (a9, a10) => OK h [] ∧ WS s' ⟨mkSl 67 [(4, .str a9), (5, .bool x6.2), (6, .int .i64 a10)], Hp h []⟩) (fun J11 hF => ?_) ?_
      ·
       refine C_seq ?_
       refine C_reg (mdl []) ?_
       refine S_m (v := .str _) rfl ?_
       refine S_call (F_strings_CutPrefix_ok _ hF fun x12 _ hF => ?_) (.cons (.refl _) (.cons (.refl _) (.nil)))
       refine S_m (v := .tup _) rfl ?_
       refine S_ext rfl rfl ?_
       refine S_ext rfl rfl ?_
       refine S_a (v := .str _) rfl ?_
       refine S_a (v := .bool _) rfl ?_
       refine S_nil ?_
       refine C_seq ?_
       refine C_reg (mdl []) ?_
       refine S_m (v := .bool _) rfl ?_
       refine S_nil ?_
       refine C_if (b := x12.2) rfl hF (fun hb13 hF => ?_) (fun hb13 hF => ?_)
       ·
        refine C_reg (mdl []) ?_
        refine S_m (v := .str _) rfl ?_
        refine S_a (v := .str _) rfl ?_
        refine S_a (v := .int _ _) rfl ?_
        refine S_nil ?_
        have hwo : WO [] [] := .nil
        exact ⟨(x12.1, (16 : Int)), hF, (hwo.spec ok).1, WS.mk' (.cons (.refl _) (.cons (.refl _) (.cons (.refl _) .nil))) ok hwo⟩
       ·
        refine WP_skip ?_
        have hwo : WO [] [] := .nil
        exact ⟨(x6.1, (10 : Int)), hF, (hwo.spec ok).1, WS.mk' (.cons (.refl _) (.cons (.refl _) (.cons (.refl _) .nil))) ok hwo⟩
      ·
       rintro ⟨a9, a10⟩ s' hF ⟨ok, hws⟩
       refine WP_ws hws ?_
       clear hws s'
       refine C_seq ?_
       refine C_seq ?_
       refine C_reg (mdl []) ?_
       refine S_m (v := .bool _) rfl ?_
       refine S_un rfl (ev_not _) ?_
       refine S_m (v := .bool _) rfl ?_
       refine S_two (b := (!x6.2)) 3 41 (.bool ((!x6.2) || (a9 == ([] : List UInt8)))) (fun hb14 => ?_) (fun hb14 => ?_) ?_
       ·
        refine S_off rfl rfl hb14 ?_
        refine S_offD ?_
        refine S_off rfl rfl hb14 ?_
        refine S_offD ?_
        refine S_pickT (v := .bool _) rfl hb14 rfl ?_
        refine S_nil ?_
        refine .hd (or_t hb14) ?_
        repeat (first | with_reducible exact WS.refl _ | refine WS.add ?_ rfl | exact WS.refl _)
       ·
        refine S_on rfl rfl hb14 ?_
        refine S_in ?_
        refine S_m (v := .str _) rfl ?_
        refine S_nil ?_
        refine S_on rfl rfl hb14 ?_
        refine S_in ?_
        refine S_bin rfl rfl e_seql ?_
        refine S_nil ?_
        refine S_pickF (v := .bool _) rfl hb14 rfl ?_
        refine S_nil ?_
        refine .hd (or_f hb14) ?_
        repeat (first | with_reducible exact WS.refl _ | refine WS.add ?_ rfl | exact WS.refl _)
       refine S_nil ?_
       refine C_if (b := ((!x6.2) || (a9 == ([] : List UInt8)))) rfl hF (fun hb15 hF => ?_) (fun hb15 hF => ?_)
       ·
        refine C_seq ?_
        refine C_reg (mdl []) ?_
        refine S_a (v := .int _ _) rfl ?_
        refine S_a (v := .int _ _) rfl ?_
        refine S_nil ?_
        refine WP_ret ?_
        repeat (first | with_reducible refine Exit.sel_ret ?_ | with_reducible refine Exit.blk_ret ?_ | with_reducible refine Exit.jmp_ret ?_)
        refine C_ret (fn := Tryd.f94) rfl (.tmp (v := .int .i32 (0 : Int)) rfl (.tmp (v := .int .i64 (22 : Int)) rfl .nil)) ?_
        exact ⟨_, _, (.tupC (.cons (.refl _) (.cons (.refl _) (.nil)))), ok.wh, _, F_some hF, rfl, rfl⟩
       ·
        refine WP_skip ?_
        refine C_seq ?_
        refine C_reg (mdl []) ?_
        refine S_a (v := .int _ _) rfl ?_
        refine S_nil ?_
        refine C_join hF (fun (a22 : Int) s' => OK h [] ∧ WS s' ⟨mkSl 67 [(9, .int .i64 a22)], Hp h []⟩) (fun J23 hF => ?_) ?_
        ·
         refine C_seq ?_
         refine C_reg (mdl []) ?_
         refine S_m (v := .str _) rfl ?_
         refine S_byt0 rfl rfl ty_sl_22 ty_st_9 ty_ki_5 ?_
         refine S_lenL rfl ty_sl_22 ?_
         refine S_m (v := .int _ _) rfl ?_
         refine S_nil ?_
         refine WP_block ?_
         refine C_loop (σ := Int × Int) hF (fun (v : Int × Int) s' => match v with | (a24, a25) => OK h [] ∧ WS s' ⟨mkSl 67 [(6, .int .i64 a10), (9, .int .i64 a24), (43, .sl 1 (List.map c_u8 a9) 0), (44, .int .i64 (a9.length : Int)), (45, .int .i64 a25)], Hp h []⟩) ?_ ?_
         ·
          have hwo : WO [] [] := .nil
          exact ⟨(hwo.spec ok).1, WS.mk' (.cons (.refl _) (.cons (.refl _) (.cons (.refl _) (.cons (.refl _) (.cons (.refl _) .nil))))) ok hwo⟩
         ·
          rintro G26 hG27 rec28 ⟨a24, a25⟩ s' ih29 hF ⟨ok, hws⟩
          refine WP_ws hws ?_
          clear hws s'
          rw [F_refer_meant_l0] at hF
          refine C_seq ?_
          refine C_reg (mdl []) ?_
          refine S_bin rfl rfl (ev_lss ..) ?_
          refine S_nil ?_
          refine C_seq ?_
          refine C_if (b := (decide (a25 < (a9.length : Int)))) rfl hF (fun hb30 hF => ?_) (fun hb30 hF => ?_)
          ·
           refine WP_skip ?_
           refine C_seq ?_
           refine WP_block ?_
           refine C_seq ?_
           refine C_reg (mdl []) ?_
           refine S_ix rfl rfl ty_sl_22 ty_sz_5 hF (fun x31 _ hF => ?_)
           refine S_ldQ rfl (p_one ty_ag_5 ty_sz_5 rfl) ?_
           refine S_a (v := .int _ _) rfl ?_
           refine S_nil ?_
           refine C_seq ?_
           refine C_reg (mdl []) ?_
           refine S_m (v := .int _ _) rfl ?_
           refine S_call (F_refer_digit_ok _ hF fun x32 _ hF => ?_) (.cons (.refl _) (.nil))
           refine S_a (v := .int _ _) rfl ?_
           refine S_nil ?_
           refine C_seq ?_
           refine C_seq ?_
           refine C_reg (mdl []) ?_
           refine S_m (v := .int _ _) rfl ?_
           refine S_m (v := .int _ _) rfl ?_
           refine S_bin rfl rfl (ev_geq ..) ?_
           refine S_nil ?_
           refine C_if (b := (decide (a10 ≤ x32))) rfl hF (fun hb33 hF => ?_) (fun hb33 hF => ?_)
           ·
            refine C_seq ?_
            refine C_reg (mdl []) ?_
            refine S_a (v := .int _ _) rfl ?_
            refine S_a (v := .int _ _) rfl ?_
            refine S_nil ?_
            refine WP_ret ?_
            replace hF := hG27 _ (F_some hF)
            repeat (first | with_reducible refine Exit.sel_ret ?_ | with_reducible refine Exit.blk_ret ?_ | with_reducible refine Exit.jmp_ret ?_)
            refine C_ret (fn := Tryd.f94) rfl (.tmp (v := .int .i32 (0 : Int)) rfl (.tmp (v := .int .i64 (22 : Int)) rfl .nil)) ?_
            exact ⟨_, _, (.tupC (.cons (.refl _) (.cons (.refl _) (.nil)))), ok.wh, _, F_some hF, rfl, rfl⟩
           ·
            refine WP_skip ?_
            refine C_reg (mdl []) ?_
            refine S_m (v := .int _ _) rfl ?_
            refine S_m (v := .int _ _) rfl ?_
            refine S_bin rfl rfl (ev_mul ..) ?_
            refine S_m (v := .int _ _) rfl ?_
            refine S_bin rfl rfl (ev_add ..) ?_
            refine S_min rfl rfl ?_
            refine S_a (v := .int _ _) rfl ?_
            refine S_nil ?_
            refine C_reg (mdl []) ?_
            refine S_bin rfl rfl (ev_add ..) ?_
            refine S_m (v := .int _ _) rfl ?_
            refine S_nil ?_
            refine ih29 ((if (1114112 : Int) < (IntKind.wrap .i64 ((IntKind.wrap .i64 (a24 * a10)) + x32)) then (1114112 : Int) else (IntKind.wrap .i64 ((IntKind.wrap .i64 (a24 * a10)) + x32))), (IntKind.wrap .i64 (a25 + (1 : Int)))) _ hF ?_
            have hwo : WO [] [] := .nil
            exact ⟨(hwo.spec ok).1, WS.mk' (.cons (.refl _) (.cons (.refl _) (.cons (.refl _) (.cons (.refl _) (.cons (.refl _) .nil))))) ok hwo⟩
          ·
           refine WP_exit ?_
           simp only [Exit.sel, Exit.blk, Exit.jmp, if_true, if_false, reduceIte, Nat.reduceEqDiff, Nat.succ_ne_zero, Nat.zero_ne_one, Nat.one_ne_zero]
           replace hF := hG27 _ (F_some hF)
           have hwo : WO [] [] := .nil
           exact ⟨a24, hF, (hwo.spec ok).1, WS.mk' (.cons (.refl _) .nil) ok hwo⟩
        ·
         rintro a22 s' hF ⟨ok, hws⟩
         refine WP_ws hws ?_
         clear hws s'
         refine C_seq ?_
         refine C_seq ?_
         refine C_reg (mdl []) ?_
         refine S_m (v := .int _ _) rfl ?_
         refine S_conv rfl (e_ci ty_ki_21 ty_un_3) ?_
         refine S_call (F_char_IsChar_ok _ hF fun x34 _ hF => ?_) (.cons (.refl _) (.nil))
         refine S_un rfl (ev_not _) ?_
         refine S_nil ?_
         refine C_if (b := (!x34)) rfl hF (fun hb35 hF => ?_) (fun hb35 hF => ?_)
         ·
          refine C_seq ?_
          refine C_reg (mdl []) ?_
          refine S_a (v := .int _ _) rfl ?_
          refine S_a (v := .int _ _) rfl ?_
          refine S_nil ?_
          refine WP_ret ?_
          repeat (first | with_reducible refine Exit.sel_ret ?_ | with_reducible refine Exit.blk_ret ?_ | with_reducible refine Exit.jmp_ret ?_)
          refine C_ret (fn := Tryd.f94) rfl (.tmp (v := .int .i32 (0 : Int)) rfl (.tmp (v := .int .i64 (21 : Int)) rfl .nil)) ?_
          exact ⟨_, _, (.tupC (.cons (.refl _) (.cons (.refl _) (.nil)))), ok.wh, _, F_some hF, rfl, rfl⟩
         ·
          refine WP_skip ?_
          refine C_seq ?_
          refine C_reg (mdl []) ?_
          refine S_m (v := .int _ _) rfl ?_
          refine S_conv rfl (e_ci ty_ki_21 ty_un_3) ?_
          refine S_a (v := .int _ _) rfl ?_
          refine S_a (v := .int _ _) rfl ?_
          refine S_nil ?_
          refine WP_ret ?_
          repeat (first | with_reducible refine Exit.sel_ret ?_ | with_reducible refine Exit.blk_ret ?_ | with_reducible refine Exit.jmp_ret ?_)
          refine C_ret (fn := Tryd.f94) rfl (.tmp (v := .int .i32 (IntKind.wrap .i32 a22)) rfl (.tmp (v := .int .i64 (0 : Int)) rfl .nil)) ?_
          exact ⟨_, _, (.tupC (.cons (.refl _) (.cons (.refl _) (.nil)))), ok.wh, _, F_some hF, rfl, rfl⟩
theorem F_refer_meant_ok {β : Type} {f : Int × Int → Option β} {G : β → Prop} {R : D → Heap → Prop} {p0 : List UInt8} (h : Heap) (hF : OptP ((F_refer_meant p0).bind f) G) (hk : ∀ r, F_refer_meant p0 = some r → OptP (f r) G → R (.tup [.int .i32 r.1, .int .i64 r.2]) h) : CallsA Tryd.prog 94 [.str p0] h R := by
 obtain ⟨r0, hr, hF⟩ := F_bind hF
 refine (F_refer_meant_w (G := fun r => r = r0) p0 h ⟨r0, hr, rfl⟩).mono ?_
 rintro _ _ ⟨r, rfl, rfl, rfl⟩
 exact hk _ hr hF
theorem F_refer_Expand_w (p0 : List UInt8) (p1 : Int) {G : Int × Int × Int → Prop} (h : Heap) (hF : OptP (F_refer_Expand p0 p1) G) : CallsA Tryd.prog 87 [.sl 1 (List.map c_u8 p0) 0, .int .i64 p1] h fun d h' => ∃ r, G r ∧ d = .tup [.int .i32 r.1, .int .i64 r.2.1, .int .i64 r.2.2] ∧ h' = h := by
 refine CallsA.ret ?_
 refine C_body Tryd.func87 rfl en_87 Tryd.ntmps87 rfl (fun ok => ?_)
 rw [F_refer_Expand] at hF
 refine C_seq ?_
 refine C_reg (mdl []) ?_
 refine S_a (v := .int _ _) rfl ?_
 refine S_a (v := .int _ _) rfl ?_
 refine S_a (v := .int _ _) rfl ?_
 refine S_nil ?_
 refine C_seq ?_
 refine C_seq ?_
 refine C_reg (mdl []) ?_
 refine S_m (v := .int _ _) rfl ?_
 refine S_bin rfl rfl (ev_lss ..) ?_
 refine S_m (v := .bool _) rfl ?_
 refine S_two (b := (decide (p1 < (0 : Int)))) 5 17 (.bool ((decide (p1 < (0 : Int))) || (decide ((p0.length : Int) ≤ p1)))) (fun hb1 => ?_) (fun hb1 => ?_) ?_
 ·
  refine S_off rfl rfl hb1 ?_
  refine S_offD ?_
  refine S_off rfl rfl hb1 ?_
  refine S_offD ?_
  refine S_off rfl rfl hb1 ?_
  refine S_offD ?_
  refine S_off rfl rfl hb1 ?_
  refine S_offD ?_
  refine S_pickT (v := .bool _) rfl hb1 rfl ?_
  refine S_nil ?_
  refine .hd (or_t hb1) ?_
  repeat (first | with_reducible exact WS.refl _ | refine WS.add ?_ rfl | exact WS.refl _)
 ·
  refine S_on rfl rfl hb1 ?_
  refine S_in ?_
  refine S_m (v := .int _ _) rfl ?_
  refine S_nil ?_
  refine S_on rfl rfl hb1 ?_
  refine S_in ?_
  refine S_m (v := .sl _ _ _) rfl ?_
  refine S_nil ?_
  refine S_on rfl rfl hb1 ?_
  refine S_in ?_
  refine S_lenL rfl ty_sl_22 ?_
  refine S_nil ?_
  refine S_on rfl rfl hb1 ?_
  refine S_in ?_
  refine S_bin rfl rfl (ev_geq ..) ?_
  refine S_nil ?_
  refine S_pickF (v := .bool _) rfl hb1 rfl ?_
  refine S_nil ?_
  refine .hd (or_f hb1) ?_
  repeat (first | with_reducible exact WS.refl _ | refine WS.add ?_ rfl | exact WS.refl _)
 refine S_m (v := .bool _) rfl ?_
 refine S_twoJ 6 24 hF (fun J3 hb2 hF => ?_) (fun J3 hb2 hF => ?_) (fun v4 hF => ?_)
 ·
  refine S_off rfl rfl hb2 ?_
  refine S_offD ?_
  refine S_off rfl rfl hb2 ?_
  refine S_offD ?_
  refine S_off rfl rfl hb2 ?_
  refine S_offD ?_
  refine S_off rfl rfl hb2 ?_
  refine S_offD ?_
  refine S_off rfl rfl hb2 ?_
  refine S_offD ?_
  refine S_pickT (v := .bool _) rfl hb2 rfl ?_
  refine S_nil ?_
  refine ⟨_, hF, .hd (.refl _) ?_⟩
  repeat (first | with_reducible exact WS.refl _ | refine WS.add ?_ rfl | exact WS.refl _)
 ·
  refine S_on rfl rfl hb2 ?_
  refine S_in ?_
  refine S_m (v := .sl _ _ _) rfl ?_
  refine S_nil ?_
  refine S_on rfl rfl hb2 ?_
  refine S_in ?_
  refine S_m (v := .int _ _) rfl ?_
  refine S_nil ?_
  refine S_on rfl rfl hb2 ?_
  refine S_in ?_
  refine S_ix rfl rfl ty_sl_22 ty_sz_5 hF (fun x5 _ hF => ?_)
  refine S_nil ?_
  refine S_on rfl rfl hb2 ?_
  refine S_in ?_
  refine S_ldQ rfl (p_one ty_ag_5 ty_sz_5 rfl) ?_
  refine S_nil ?_
  refine S_on rfl rfl hb2 ?_
  refine S_in ?_
  refine S_bin rfl rfl (ev_neq ..) ?_
  refine S_nil ?_
  refine S_pickF (v := .bool _) rfl hb2 rfl ?_
  refine S_nil ?_
  refine ⟨_, hF, .hd (.refl _) ?_⟩
  repeat (first | with_reducible exact WS.refl _ | refine WS.add ?_ rfl | exact WS.refl _)
 ·
  refine S_nil ?_
  refine C_if (b := v4) rfl hF (fun hb6 hF => ?_) (fun hb6 hF => ?_)
  ·
   refine C_seq ?_
   refine C_reg (mdl []) ?_
   refine S_a (v := .int _ _) rfl ?_
   refine S_a (v := .int _ _) rfl ?_
   refine S_a (v := .int _ _) rfl ?_
   refine S_nil ?_
   refine WP_ret ?_
   repeat (first | with_reducible refine Exit.sel_ret ?_ | with_reducible refine Exit.blk_ret ?_ | with_reducible refine Exit.jmp_ret ?_)
   refine C_ret (fn := Tryd.f87) rfl (.tmp (v := .int .i32 (0 : Int)) rfl (.tmp (v := .int .i64 (0 : Int)) rfl (.tmp (v := .int .i64 (1 : Int)) rfl .nil))) ?_
   exact ⟨_, _, (.tupC (.cons (.refl _) (.cons (.refl _) (.cons (.refl _) (.nil))))), ok.wh, _, F_some hF, rfl, rfl⟩
  ·
   refine WP_skip ?_
   refine C_seq ?_
   refine C_reg (mdl []) ?_
   refine S_m (v := .sl _ _ _) rfl ?_
   refine S_m (v := .int _ _) rfl ?_
   refine S_slL rfl ty_sl_22 ty_sz_5 (bd_at rfl) bd_len hF (fun x7 _ hF => ?_)
   refine S_call (L_bIndexByte_ok _ hF fun x8 _ hF => ?_) (.cons (.refl _) (.cons (.refl _) (.nil)))
   refine S_a (v := .int _ _) rfl ?_
   refine S_nil ?_
   refine C_seq ?_
   refine C_seq ?_
   refine C_reg (mdl []) ?_
   refine S_m (v := .int _ _) rfl ?_
   refine S_bin rfl rfl (ev_lss ..) ?_
   refine S_nil ?_
   refine C_if (b := (decide (x8 < (0 : Int)))) rfl hF (fun hb9 hF => ?_) (fun hb9 hF => ?_)
   ·
    refine C_seq ?_
    refine C_reg (mdl []) ?_
    refine S_a (v := .int _ _) rfl ?_
    refine S_a (v := .int _ _) rfl ?_
    refine S_a (v := .int _ _) rfl ?_
    refine S_nil ?_
    refine WP_ret ?_
    repeat (first | with_reducible refine Exit.sel_ret ?_ | with_reducible refine Exit.blk_ret ?_ | with_reducible refine Exit.jmp_ret ?_)
    refine C_ret (fn := Tryd.f87) rfl (.tmp (v := .int .i32 (0 : Int)) rfl (.tmp (v := .int .i64 (0 : Int)) rfl (.tmp (v := .int .i64 (22 : Int)) rfl .nil))) ?_
    exact ⟨_, _, (.tupC (.cons (.refl _) (.cons (.refl _) (.cons (.refl _) (.nil))))), ok.wh, _, F_some hF, rfl, rfl⟩
   ·
    refine WP_skip ?_
    refine C_seq ?_
    refine C_reg (mdl []) ?_
    refine S_m (v := .sl _ _ _) rfl ?_
    refine S_m (v := .int _ _) rfl ?_
    refine S_bin rfl rfl (ev_add ..) ?_
    refine S_m (v := .int _ _) rfl ?_
    refine S_m (v := .int _ _) rfl ?_
    refine S_bin rfl rfl (ev_add ..) ?_
    refine S_slL rfl ty_sl_22 ty_sz_5 (bd_at rfl) (bd_at rfl) hF (fun x10 _ hF => ?_)
    refine S_conv rfl (e_cbs ty_sl_22 ty_ki_5 ty_st_9) ?_
    refine S_call (F_refer_meant_ok _ hF fun x11 _ hF => ?_) (.cons (.refl _) (.nil))
    refine S_m (v := .tup _) rfl ?_
    refine S_ext rfl rfl ?_
    refine S_ext rfl rfl ?_
    refine S_a (v := .int _ _) rfl ?_
    refine S_a (v := .int _ _) rfl ?_
    refine S_nil ?_
    refine C_seq ?_
    refine C_seq ?_
    refine C_reg (mdl []) ?_
    refine S_m (v := .int _ _) rfl ?_
    refine S_bin rfl rfl (ev_neq ..) ?_
    refine S_nil ?_
    refine C_if (b := (x11.2 != (0 : Int))) rfl hF (fun hb12 hF => ?_) (fun hb12 hF => ?_)
    ·
     refine C_seq ?_
     refine C_reg (mdl []) ?_
     refine S_m (v := .int _ _) rfl ?_
     refine S_a (v := .int _ _) rfl ?_
     refine S_a (v := .int _ _) rfl ?_
     refine S_a (v := .int _ _) rfl ?_
     refine S_nil ?_
     refine WP_ret ?_
     repeat (first | with_reducible refine Exit.sel_ret ?_ | with_reducible refine Exit.blk_ret ?_ | with_reducible refine Exit.jmp_ret ?_)
     refine C_ret (fn := Tryd.f87) rfl (.tmp (v := .int .i32 (0 : Int)) rfl (.tmp (v := .int .i64 (0 : Int)) rfl (.tmp (v := .int .i64 x11.2) rfl .nil))) ?_
     exact ⟨_, _, (.tupC (.cons (.refl _) (.cons (.refl _) (.cons (.refl _) (.nil))))), ok.wh, _, F_some hF, rfl, rfl⟩
    ·
     refine WP_skip ?_
     refine C_seq ?_
     refine C_reg (mdl []) ?_
     refine S_m (v := .int _ _) rfl ?_
     refine S_m (v := .int _ _) rfl ?_
     refine S_m (v := .int _ _) rfl ?_
     refine S_bin rfl rfl (ev_add ..) ?_
     refine S_bin rfl rfl (ev_add ..) ?_
     refine S_a (v := .int _ _) rfl ?_
     refine S_a (v := .int _ _) rfl ?_
     refine S_a (v := .int _ _) rfl ?_
     refine S_nil ?_
     refine WP_ret ?_
     repeat (first | with_reducible refine Exit.sel_ret ?_ | with_reducible refine Exit.blk_ret ?_ | with_reducible refine Exit.jmp_ret ?_)
     refine C_ret (fn := Tryd.f87) rfl (.tmp (v := .int .i32 x11.1) rfl (.tmp (v := .int .i64 (IntKind.wrap .i64 ((IntKind.wrap .i64 (p1 + x8)) + (1 : Int)))) rfl (.tmp (v := .int .i64 (0 : Int)) rfl .nil))) ?_
     exact ⟨_, _, (.tupC (.cons (.refl _) (.cons (.refl _) (.cons (.refl _) (.nil))))), ok.wh, _, F_some hF, rfl, rfl⟩
theorem F_refer_Expand_ok {β : Type} {f : Int × Int × Int → Option β} {G : β → Prop} {R : D → Heap → Prop} {p0 : List UInt8} {p1 : Int} (h : Heap) (hF : OptP ((F_refer_Expand p0 p1).bind f) G) (hk : ∀ r, F_refer_Expand p0 p1 = some r → OptP (f r) G → R (.tup [.int .i32 r.1, .int .i64 r.2.1, .int .i64 r.2.2]) h) : CallsA Tryd.prog 87 [.sl 1 (List.map c_u8 p0) 0, .int .i64 p1] h R := by
 obtain ⟨r0, hr, hF⟩ := F_bind hF
 refine (F_refer_Expand_w (G := fun r => r = r0) p0 p1 h ⟨r0, hr, rfl⟩).mono ?_
 rintro _ _ ⟨r, rfl, rfl, rfl⟩
 exact hk _ hr hF
theorem F_refer_read_w (p0 : List UInt8) (p1 : Bool) {G : (List UInt8) × Int × Int → Prop} (h : Heap) (hF : OptP (F_refer_read p0 p1) G) : CallsA Tryd.prog 68 [.sl 1 (List.map c_u8 p0) 0, .bool p1] h fun d h' => ∃ r, G r ∧ d = .tup [.str r.1, .int .i64 r.2.1, .int .i64 r.2.2] ∧ h' = h := by
 refine CallsA.ret ?_
 refine C_body Tryd.func68 rfl en_68 Tryd.ntmps68 rfl (fun ok => ?_)
 rw [F_refer_read] at hF
 refine C_seq ?_
 refine C_reg (mdl []) ?_
 refine S_a (v := .str ([] : List UInt8)) rfl ?_
 refine S_a (v := .int _ _) rfl ?_
 refine S_a (v := .int _ _) rfl ?_
 refine S_nil ?_
 refine C_seq ?_
 refine C_reg (mdl []) ?_
 refine S_a (v := .snil) rfl ?_
 refine S_ghost 7 1 ok rfl rfl ?_
 intro r1 hr1 ok
 refine S_nil ?_
 refine C_join hF (fun (a52 : (List UInt8)) s' => ∃ g53 : Nat, g53 ≠ 0 ∧ OK h [(g53, .room)] ∧ WS s' ⟨mkSl 79 [(7, .sl 1 (List.map c_u8 a52) g53)], Hp h [(g53, .room)]⟩) (fun J54 hF => ?_) ?_
 ·
  refine C_seq ?_
  refine C_reg (mdl []) ?_
  refine S_a (v := .int _ _) rfl ?_
  refine S_nil ?_
  refine WP_block ?_
  refine C_loop (σ := (List UInt8) × Int) hF (fun (v : (List UInt8) × Int) s' => match v with | (a55, a57) => ∃ g56 : Nat, g56 ≠ 0 ∧ OK h [(g56, .room)] ∧ WS s' ⟨mkSl 79 [(0, .sl 1 (List.map c_u8 p0) 0), (1, .bool p1), (7, .sl 1 (List.map c_u8 a55) g56), (8, .int .i64 a57)], Hp h [(g56, .room)]⟩) ?_ ?_
  ·
   have hwo : WO [(r1, .room)] [(r1, .room)] := (.keep .nil)
   exact ⟨r1, hr1, (hwo.spec ok).1, WS.mk' (.cons (.refl _) (.cons (.refl _) (.cons (.refl _) (.cons (.refl _) .nil)))) ok hwo⟩
  ·
   rintro G58 hG59 rec60 ⟨a55, a57⟩ s' ih61 hF ⟨g56, hg56, ok, hws⟩
   refine WP_ws hws ?_
   clear hws s'
   rw [F_refer_read_l0] at hF
   refine C_seq ?_
   refine C_seq ?_
   refine C_reg (mdl []) ?_
   refine S_m (v := .int _ _) rfl ?_
   refine S_m (v := .sl _ _ _) rfl ?_
   refine S_lenL rfl ty_sl_22 ?_
   refine S_bin rfl rfl (ev_lss ..) ?_
   refine S_nil ?_
   refine C_if (b := (decide (a57 < (p0.length : Int)))) rfl hF (fun hb62 hF => ?_) (fun hb62 hF => ?_)
   ·
    refine WP_skip ?_
    refine WP_block ?_
    refine C_seq ?_
    refine C_reg (mdl []) ?_
    refine S_m (v := .sl _ _ _) rfl ?_
    refine S_m (v := .int _ _) rfl ?_
    refine S_call (F_char_Next_ok _ hF fun x63 _ hF => ?_) (.cons (.refl _) (.cons (.refl _) (.nil)))
    refine S_m (v := .tup _) rfl ?_
    refine S_ext rfl rfl ?_
    refine S_ext rfl rfl ?_
    refine S_ext rfl rfl ?_
    refine S_a (v := .int _ _) rfl ?_
    refine S_a (v := .int _ _) rfl ?_
    refine S_a (v := .int _ _) rfl ?_
    refine S_nil ?_
    refine C_join hF (fun (v : Int × Int) s' => match v with | (a85, a86) => OK h [(g56, .room)] ∧ WS s' ⟨mkSl 79 [(0, .sl 1 (List.map c_u8 p0) 0), (1, .bool p1), (7, .sl 1 (List.map c_u8 a55) g56), (9, .int .i32 a85), (10, .int .i64 a86)], Hp h [(g56, .room)]⟩) (fun J87 hF => ?_) ?_
    ·
     refine WP_block ?_
     refine C_seq ?_
     refine C_reg (mdl []) ?_
     refine S_m (v := .int _ _) rfl ?_
     refine S_bin rfl rfl (ev_neq ..) ?_
     refine S_a (v := .bool _) rfl ?_
     refine S_nil ?_
     refine C_if (b := (x63.2.2 != (0 : Int))) rfl hF (fun hb88 hF => ?_) (fun hb88 hF => ?_)
     ·
      refine C_seq ?_
      refine C_reg (mdl []) ?_
      refine S_m (v := .int _ _) rfl ?_
      refine S_m (v := .int _ _) rfl ?_
      refine S_a (v := .str ([] : List UInt8)) rfl ?_
      refine S_a (v := .int _ _) rfl ?_
      refine S_a (v := .int _ _) rfl ?_
      refine S_nil ?_
      refine WP_ret ?_
      replace hF := hG59 _ (F_some hF)
      repeat (first | with_reducible refine Exit.sel_ret ?_ | with_reducible refine Exit.blk_ret ?_ | with_reducible refine Exit.jmp_ret ?_)
      refine C_ret (fn := Tryd.f68) rfl (.tmp (v := .str ([] : List UInt8)) rfl (.tmp (v := .int .i64 a57) rfl (.tmp (v := .int .i64 x63.2.2) rfl .nil))) ?_
      exact ⟨_, _, (.tupC (.cons (.refl _) (.cons (.refl _) (.cons (.refl _) (.nil))))), ok.wh, _, F_some hF, rfl, rfl⟩
     ·
      refine C_seq ?_
      refine C_reg (mdl [(38, 5), (39, 5)]) ?_
      refine S_m (v := .int _ _) rfl ?_
      refine S_bin rfl rfl (ev_eql ..) ?_
      refine S_m (v := .bool _) rfl ?_
      refine S_twoJ 11 42 hF (fun J90 hb89 hF => ?_) (fun J90 hb89 hF => ?_) (fun v91 hF => ?_)
      ·
       refine S_off rfl rfl hb89 ?_
       refine S_offD ?_
       refine S_off rfl rfl hb89 ?_
       refine S_offD ?_
       refine S_off rfl rfl hb89 ?_
       refine S_offD ?_
       refine S_off2 rfl rfl ?_
       refine S_offD ?_
       refine S_off2 rfl rfl ?_
       refine S_offD ?_
       refine S_off2 rfl rfl ?_
       refine S_offD ?_
       refine S_off2 rfl rfl ?_
       refine S_offD ?_
       refine S_off2 rfl rfl ?_
       refine S_offD ?_
       refine S_off2 rfl rfl ?_
       refine S_offD ?_
       refine S_off rfl rfl hb89 ?_
       refine S_offD ?_
       refine S_pickT (v := .bool _) rfl hb89 rfl ?_
       refine S_nil ?_
       refine ⟨_, hF, .hd (.refl _) ?_⟩
       repeat (first | with_reducible exact WS.refl _ | refine WS.add ?_ rfl | exact WS.refl _)
      ·
       refine S_on rfl rfl hb89 ?_
       refine S_in ?_
       refine S_m (v := .bool _) rfl ?_
       refine S_nil ?_
       refine S_on rfl rfl hb89 ?_
       refine S_in ?_
       refine S_un rfl (ev_not _) ?_
       refine S_nil ?_
       refine S_on rfl rfl hb89 ?_
       refine S_in ?_
       refine S_m (v := .bool _) rfl ?_
       refine S_nil ?_
       refine S_twoJ 7 41 hF (fun J93 hb92 hF => ?_) (fun J93 hb92 hF => ?_) (fun v94 hF => ?_)
       ·
        refine S_on rfl rfl hb92 ?_
        refine S_in ?_
        refine S_m (v := .sl _ _ _) rfl ?_
        refine S_nil ?_
        refine S_on rfl rfl hb92 ?_
        refine S_in ?_
        refine S_m (v := .int _ _) rfl ?_
        refine S_nil ?_
        refine S_on rfl rfl hb92 ?_
        refine S_in ?_
        refine S_slL rfl ty_sl_22 ty_sz_5 (bd_at rfl) bd_len hF (fun x95 _ hF => ?_)
        refine S_nil ?_
        refine S_on rfl rfl hb92 ?_
        refine S_in ?_
        refine S_lit5 (cs := [.int .u8 93, .int .u8 93, .int .u8 62]) ok rfl ty_el_22 rfl (by kernel_rfl) ?_
        intro i96 hi96 ok
        refine S_nil ?_
        refine S_on rfl rfl hb92 ?_
        refine S_in ?_
        refine S_cvt (v := .sl 1 (List.map c_u8 ([93, 93, 62] : List UInt8)) 0) (by kernel_rfl) 0 ok rfl rfl hi96 rfl ty_sl_22 ty_ki_5 rfl rfl (fun ok => ?_)
        refine S_nil ?_
        refine S_on rfl rfl hb92 ?_
        refine S_in ?_
        refine S_call (F_bytes_HasPrefix_ok _ hF fun x98 _ hF => ?_) (.cons (.refl _) (.cons (.refl _) (.nil)))
        refine S_nil ?_
        refine S_on rfl rfl hb89 ?_
        refine S_in ?_
        refine S_pickT (v := .bool _) rfl hb92 rfl ?_
        refine S_nil ?_
        refine S_nil ?_
        refine ⟨_, hF, .hd (.refl _) ?_⟩
        repeat (first | with_reducible exact WS.refl _ | refine WS.add ?_ rfl | exact WS.refl _)
       ·
        refine S_off rfl rfl hb92 ?_
        refine S_offD ?_
        refine S_off rfl rfl hb92 ?_
        refine S_offD ?_
        refine S_off rfl rfl hb92 ?_
        refine S_offD ?_
        refine S_off rfl rfl hb92 ?_
        refine S_offD ?_
        refine S_off rfl rfl hb92 ?_
        refine S_offD ?_
        refine S_off rfl rfl hb92 ?_
        refine S_offD ?_
        refine S_on rfl rfl hb89 ?_
        refine S_in ?_
        refine S_pickF (v := .bool _) rfl hb92 rfl ?_
        refine S_nil ?_
        refine S_nil ?_
        refine ⟨_, hF, .hd (.refl _) ?_⟩
        repeat (first | with_reducible exact WS.refl _ | refine WS.add ?_ rfl | exact WS.refl _)
       ·
        refine S_pickF (v := .bool _) rfl hb89 rfl ?_
        refine S_nil ?_
        refine ⟨_, hF, .hd (.refl _) ?_⟩
        repeat (first | with_reducible exact WS.refl _ | refine WS.add ?_ rfl | exact WS.refl _)
      ·
       refine S_a (v := .bool _) rfl ?_
       refine S_nil ?_
       refine C_if (b := v91) rfl hF (fun hb99 hF => ?_) (fun hb99 hF => ?_)
       ·
        refine C_seq ?_
        refine C_reg (mdl []) ?_
        refine S_m (v := .int _ _) rfl ?_
        refine S_a (v := .str ([] : List UInt8)) rfl ?_
        refine S_a (v := .int _ _) rfl ?_
        refine S_a (v := .int _ _) rfl ?_
        refine S_nil ?_
        refine WP_ret ?_
        replace hF := hG59 _ (F_some hF)
        repeat (first | with_reducible refine Exit.sel_ret ?_ | with_reducible refine Exit.blk_ret ?_ | with_reducible refine Exit.jmp_ret ?_)
        refine C_ret (fn := Tryd.f68) rfl (.tmp (v := .str ([] : List UInt8)) rfl (.tmp (v := .int .i64 a57) rfl (.tmp (v := .int .i64 (23 : Int)) rfl .nil))) ?_
        exact ⟨_, _, (.tupC (.cons (.refl _) (.cons (.refl _) (.cons (.refl _) (.nil))))), ok.wh, _, F_some hF, rfl, rfl⟩
       ·
        refine C_seq ?_
        refine C_reg (mdl []) ?_
        refine S_m (v := .int _ _) rfl ?_
        refine S_bin rfl rfl (ev_eql ..) ?_
        refine S_a (v := .bool _) rfl ?_
        refine S_nil ?_
        refine C_if (b := (x63.1 == (38 : Int))) rfl hF (fun hb100 hF => ?_) (fun hb100 hF => ?_)
        ·
         refine C_seq ?_
         refine C_reg (mdl []) ?_
         refine S_m (v := .sl _ _ _) rfl ?_
         refine S_m (v := .int _ _) rfl ?_
         refine S_call (F_refer_Expand_ok _ hF fun x101 _ hF => ?_) (.cons (.refl _) (.cons (.refl _) (.nil)))
         refine S_m (v := .tup _) rfl ?_
         refine S_ext rfl rfl ?_
         refine S_ext rfl rfl ?_
         refine S_ext rfl rfl ?_
         refine S_a (v := .int _ _) rfl ?_
         refine S_a (v := .int _ _) rfl ?_
         refine S_a (v := .int _ _) rfl ?_
         refine S_nil ?_
         refine C_seq ?_
         refine C_reg (mdl []) ?_
         refine S_m (v := .int _ _) rfl ?_
         refine S_bin rfl rfl (ev_neq ..) ?_
         refine S_nil ?_
         refine C_if (b := (x101.2.2 != (0 : Int))) rfl hF (fun hb102 hF => ?_) (fun hb102 hF => ?_)
         ·
          refine C_seq ?_
          refine C_reg (mdl []) ?_
          refine S_m (v := .int _ _) rfl ?_
          refine S_m (v := .int _ _) rfl ?_
          refine S_a (v := .str ([] : List UInt8)) rfl ?_
          refine S_a (v := .int _ _) rfl ?_
          refine S_a (v := .int _ _) rfl ?_
          refine S_nil ?_
          refine WP_ret ?_
          replace hF := hG59 _ (F_some hF)
          repeat (first | with_reducible refine Exit.sel_ret ?_ | with_reducible refine Exit.blk_ret ?_ | with_reducible refine Exit.jmp_ret ?_)
          refine C_ret (fn := Tryd.f68) rfl (.tmp (v := .str ([] : List UInt8)) rfl (.tmp (v := .int .i64 a57) rfl (.tmp (v := .int .i64 x101.2.2) rfl .nil))) ?_
          exact ⟨_, _, (.tupC (.cons (.refl _) (.cons (.refl _) (.cons (.refl _) (.nil))))), ok.wh, _, F_some hF, rfl, rfl⟩
         ·
          refine WP_skip ?_
          have hwo : WO [(g56, .room)] [(g56, .room)] := (.keep .nil)
          exact ⟨(x101.1, x101.2.1), hF, (hwo.spec ok).1, WS.mk' (.cons (.refl _) (.cons (.refl _) (.cons (.refl _) (.cons (.refl _) (.cons (.refl _) .nil))))) ok hwo⟩
        ·
         refine C_seq ?_
         refine C_reg (mdl []) ?_
         refine S_m (v := .bool _) rfl ?_
         refine S_m (v := .bool _) rfl ?_
         refine S_two (b := p1) 11 71 (.bool (p1 && (((x63.1 == (9 : Int)) || (x63.1 == (10 : Int))) || (x63.1 == (13 : Int))))) (fun hb103 => ?_) (fun hb103 => ?_) ?_
         ·
          refine S_on rfl rfl hb103 ?_
          refine S_in ?_
          refine S_m (v := .int _ _) rfl ?_
          refine S_nil ?_
          refine S_on rfl rfl hb103 ?_
          refine S_in ?_
          refine S_bin rfl rfl (ev_eql ..) ?_
          refine S_nil ?_
          refine S_on rfl rfl hb103 ?_
          refine S_in ?_
          refine S_m (v := .bool _) rfl ?_
          refine S_nil ?_
          refine S_two (b := (x63.1 == (9 : Int))) 3 66 (.bool ((x63.1 == (9 : Int)) || (x63.1 == (10 : Int)))) (fun hb106 => ?_) (fun hb106 => ?_) ?_
          ·
           refine S_off rfl rfl hb106 ?_
           refine S_offD ?_
           refine S_off rfl rfl hb106 ?_
           refine S_offD ?_
           refine S_on rfl rfl hb103 ?_
           refine S_in ?_
           refine S_pickT (v := .bool _) rfl hb106 rfl ?_
           refine S_nil ?_
           refine S_nil ?_
           refine .hd (or_t hb106) ?_
           repeat (first | with_reducible exact WS.refl _ | refine WS.add ?_ rfl | exact WS.refl _)
          ·
           refine S_on rfl rfl hb106 ?_
           refine S_in ?_
           refine S_m (v := .int _ _) rfl ?_
           refine S_nil ?_
           refine S_on rfl rfl hb106 ?_
           refine S_in ?_
           refine S_bin rfl rfl (ev_eql ..) ?_
           refine S_nil ?_
           refine S_on rfl rfl hb103 ?_
           refine S_in ?_
           refine S_pickF (v := .bool _) rfl hb106 rfl ?_
           refine S_nil ?_
           refine S_nil ?_
           refine .hd (or_f hb106) ?_
           repeat (first | with_reducible exact WS.refl _ | refine WS.add ?_ rfl | exact WS.refl _)
          refine S_on rfl rfl hb103 ?_
          refine S_in ?_
          refine S_m (v := .bool _) rfl ?_
          refine S_nil ?_
          refine S_two (b := ((x63.1 == (9 : Int)) || (x63.1 == (10 : Int)))) 3 70 (.bool (((x63.1 == (9 : Int)) || (x63.1 == (10 : Int))) || (x63.1 == (13 : Int)))) (fun hb107 => ?_) (fun hb107 => ?_) ?_
          ·
           refine S_off rfl rfl hb107 ?_
           refine S_offD ?_
           refine S_off rfl rfl hb107 ?_
           refine S_offD ?_
           refine S_on rfl rfl hb103 ?_
           refine S_in ?_
           refine S_pickT (v := .bool _) rfl hb107 rfl ?_
           refine S_nil ?_
           refine S_nil ?_
           refine .hd (or_t hb107) ?_
           repeat (first | with_reducible exact WS.refl _ | refine WS.add ?_ rfl | exact WS.refl _)
          ·
           refine S_on rfl rfl hb107 ?_
           refine S_in ?_
           refine S_m (v := .int _ _) rfl ?_
           refine S_nil ?_
           refine S_on rfl rfl hb107 ?_
           refine S_in ?_
           refine S_bin rfl rfl (ev_eql ..) ?_
           refine S_nil ?_
           refine S_on rfl rfl hb103 ?_
           refine S_in ?_
           refine S_pickF (v := .bool _) rfl hb107 rfl ?_
           refine S_nil ?_
           refine S_nil ?_
           refine .hd (or_f hb107) ?_
           repeat (first | with_reducible exact WS.refl _ | refine WS.add ?_ rfl | exact WS.refl _)
          refine S_pickT (v := .bool _) rfl hb103 rfl ?_
          refine S_nil ?_
          refine .hd (and_t hb103) ?_
          repeat (first | with_reducible exact WS.refl _ | refine WS.add ?_ rfl | exact WS.refl _)
         ·
          refine S_off rfl rfl hb103 ?_
          refine S_offD ?_
          refine S_off rfl rfl hb103 ?_
          refine S_offD ?_
          refine S_off rfl rfl hb103 ?_
          refine S_offD ?_
          refine S_off2 rfl rfl ?_
          refine S_offD ?_
          refine S_off2 rfl rfl ?_
          refine S_offD ?_
          refine S_off rfl rfl hb103 ?_
          refine S_offD ?_
          refine S_off rfl rfl hb103 ?_
          refine S_offD ?_
          refine S_off2 rfl rfl ?_
          refine S_offD ?_
          refine S_off2 rfl rfl ?_
          refine S_offD ?_
          refine S_off rfl rfl hb103 ?_
          refine S_offD ?_
          refine S_pickF (v := .bool _) rfl hb103 rfl ?_
          refine S_nil ?_
          refine .hd (and_f hb103) ?_
          repeat (first | with_reducible exact WS.refl _ | refine WS.add ?_ rfl | exact WS.refl _)
         refine S_a (v := .bool _) rfl ?_
         refine S_nil ?_
         refine C_if (b := (p1 && (((x63.1 == (9 : Int)) || (x63.1 == (10 : Int))) || (x63.1 == (13 : Int))))) rfl hF (fun hb108 hF => ?_) (fun hb108 hF => ?_)
         ·
          refine C_reg (mdl []) ?_
          refine S_a (v := .int _ _) rfl ?_
          refine S_nil ?_
          have hwo : WO [(g56, .room)] [(g56, .room)] := (.keep .nil)
          exact ⟨((32 : Int), x63.2.1), hF, (hwo.spec ok).1, WS.mk' (.cons (.refl _) (.cons (.refl _) (.cons (.refl _) (.cons (.refl _) (.cons (.refl _) .nil))))) ok hwo⟩
         ·
          refine WP_skip ?_
          have hwo : WO [(g56, .room)] [(g56, .room)] := (.keep .nil)
          exact ⟨(x63.1, x63.2.1), hF, (hwo.spec ok).1, WS.mk' (.cons (.refl _) (.cons (.refl _) (.cons (.refl _) (.cons (.refl _) (.cons (.refl _) .nil))))) ok hwo⟩
    ·
     rintro ⟨a85, a86⟩ s' hF ⟨ok, hws⟩
     refine WP_ws hws ?_
     clear hws s'
     refine C_seq ?_
     refine C_reg (mdl [(75, 2)]) ?_
     refine S_m (v := .sl _ _ _) rfl ?_
     refine S_m (v := .int _ _) rfl ?_
     refine S_conv rfl (e_cr ty_ki_9 ty_fa_9 ty_st_9 ty_un_21) ?_
     refine S_appS (j := 0) ok rfl rfl rfl rfl hg56 ty_el_22 ty_ni_9 hF ?_
     intro r109 hr109 ok hF
     refine S_a (v := .sl _ _ _) rfl ?_
     refine S_nil ?_
     refine C_reg (mdl []) ?_
     refine S_m (v := .int _ _) rfl ?_
     refine S_a (v := .int _ _) rfl ?_
     refine S_nil ?_
     refine ih61 ((a55 ++ (Utf8.encode a85).data.toList), a86) _ hF ?_
     have hwo : WO [(r109, .room)] [(r109, .room)] := (.keep .nil)
     exact ⟨r109, hr109, (hwo.spec ok).1, WS.mk' (.cons (.refl _) (.cons (.refl _) (.cons (.refl _) (.cons (.refl _) .nil)))) ok hwo⟩
   ·
    refine WP_exit ?_
    simp only [Exit.sel, Exit.blk, Exit.jmp, if_true, if_false, reduceIte, Nat.reduceEqDiff, Nat.succ_ne_zero, Nat.zero_ne_one, Nat.one_ne_zero]
    replace hF := hG59 _ (F_some hF)
    have hwo : WO [(g56, .room)] [(g56, .room)] := (.keep .nil)
    exact ⟨a55, hF, g56, hg56, (hwo.spec ok).1, WS.mk' (.cons (.refl _) .nil) ok hwo⟩
 ·
  rintro a52 s' hF ⟨g53, hg53, ok, hws⟩
  refine WP_ws hws ?_
  clear hws s'
  refine C_seq ?_
  refine C_reg (mdl []) ?_
  refine S_m (v := .sl _ _ _) rfl ?_
  refine S_one 77 (v := .sl 1 (List.map c_u8 a52) 0) (.zero _ _ _) ?_
  refine S_conv rfl (e_cbs ty_sl_22 ty_ki_5 ty_st_9) ?_
  refine S_a (v := .str _) rfl ?_
  refine S_a (v := .int _ _) rfl ?_
  refine S_a (v := .int _ _) rfl ?_
  refine S_nil ?_
  refine WP_ret ?_
  repeat (first | with_reducible refine Exit.sel_ret ?_ | with_reducible refine Exit.blk_ret ?_ | with_reducible refine Exit.jmp_ret ?_)
  refine C_ret (fn := Tryd.f68) rfl (.tmp (v := .str a52) rfl (.tmp (v := .int .i64 (0 : Int)) rfl (.tmp (v := .int .i64 (0 : Int)) rfl .nil))) ?_
  exact ⟨_, _, (.tupC (.cons (.refl _) (.cons (.refl _) (.cons (.refl _) (.nil))))), ok.wh, _, F_some hF, rfl, rfl⟩
theorem F_refer_read_ok {β : Type} {f : (List UInt8) × Int × Int → Option β} {G : β → Prop} {R : D → Heap → Prop} {p0 : List UInt8} {p1 : Bool} (h : Heap) (hF : OptP ((F_refer_read p0 p1).bind f) G) (hk : ∀ r, F_refer_read p0 p1 = some r → OptP (f r) G → R (.tup [.str r.1, .int .i64 r.2.1, .int .i64 r.2.2]) h) : CallsA Tryd.prog 68 [.sl 1 (List.map c_u8 p0) 0, .bool p1] h R := by
 obtain ⟨r0, hr, hF⟩ := F_bind hF
 refine (F_refer_read_w (G := fun r => r = r0) p0 p1 h ⟨r0, hr, rfl⟩).mono ?_
 rintro _ _ ⟨r, rfl, rfl, rfl⟩
 exact hk _ hr hF
theorem F_refer_ReadValue_w (p0 : List UInt8) {G : (List UInt8) × Int × Int → Prop} (h : Heap) (hF : OptP (F_refer_ReadValue p0) G) : CallsA Tryd.prog 49 [.sl 1 (List.map c_u8 p0) 0] h fun d h' => ∃ r, G r ∧ d = .tup [.str r.1, .int .i64 r.2.1, .int .i64 r.2.2] ∧ h' = h := by
 refine CallsA.ret ?_
 refine C_body Tryd.func49 rfl en_49 Tryd.ntmps49 rfl (fun ok => ?_)
 rw [F_refer_ReadValue] at hF
 refine C_seq ?_
 refine C_reg (mdl []) ?_
 refine S_a (v := .str ([] : List UInt8)) rfl ?_
 refine S_a (v := .int _ _) rfl ?_
 refine S_a (v := .int _ _) rfl ?_
 refine S_nil ?_
 refine C_seq ?_
 refine C_reg (mdl []) ?_
 refine S_m (v := .sl _ _ _) rfl ?_
 refine S_call (F_refer_read_ok _ hF fun x1 _ hF => ?_) (.cons (.refl _) (.cons (.refl _) (.nil)))
 refine S_ext rfl rfl ?_
 refine S_ext rfl rfl ?_
 refine S_ext rfl rfl ?_
 refine S_a (v := .str _) rfl ?_
 refine S_a (v := .int _ _) rfl ?_
 refine S_a (v := .int _ _) rfl ?_
 refine S_nil ?_
 refine WP_ret ?_
 repeat (first | with_reducible refine Exit.sel_ret ?_ | with_reducible refine Exit.blk_ret ?_ | with_reducible refine Exit.jmp_ret ?_)
 refine C_ret (fn := Tryd.f49) rfl (.tmp (v := .str x1.1) rfl (.tmp (v := .int .i64 x1.2.1) rfl (.tmp (v := .int .i64 x1.2.2) rfl .nil))) ?_
 exact ⟨_, _, (.tupC (.cons (.refl _) (.cons (.refl _) (.cons (.refl _) (.nil))))), ok.wh, _, F_some hF, rfl, rfl⟩
theorem F_refer_ReadValue_ok {β : Type} {f : (List UInt8) × Int × Int → Option β} {G : β → Prop} {R : D → Heap → Prop} {p0 : List UInt8} (h : Heap) (hF : OptP ((F_refer_ReadValue p0).bind f) G) (hk : ∀ r, F_refer_ReadValue p0 = some r → OptP (f r) G → R (.tup [.str r.1, .int .i64 r.2.1, .int .i64 r.2.2]) h) : CallsA Tryd.prog 49 [.sl 1 (List.map c_u8 p0) 0] h R := by
 obtain ⟨r0, hr, hF⟩ := F_bind hF
 refine (F_refer_ReadValue_w (G := fun r => r = r0) p0 h ⟨r0, hr, rfl⟩).mono ?_
 rintro _ _ ⟨r, rfl, rfl, rfl⟩
 exact hk _ hr hF
theorem F_scan_scanner_tag_w (p0 : T_scan_scanner) (p1 : T_scan_Token) (q0 : Nat) (q1 : Nat) (b1_3 : Nat) {G : Int × T_scan_scanner × T_scan_Token → Prop} (h : Heap) (O : List (Nat × AObj)) (hq0 : q0 ≠ 0) (hq1 : q1 ≠ 0) (zb1_3 : b1_3 = 0 → p1.Pairs = []) (ok : OK h ((q0, .cells [.sl 1 (List.map c_u8 p0.b) 0, .int .i64 p0.at_]) :: (q1, .cells [.int .i64 p1.Kind, .int .i64 p1.At, .str p1.Name, mslO 2 b1_3 p1.Pairs, .str p1.Text, .int .i64 p1.Refs]) :: mo b1_3 c_T_scan_Pair p1.Pairs :: O)) (hF : OptP (F_scan_scanner_tag p0 p1) G) : CallsA Tryd.prog 35 [.ptr q0 0, .ptr q1 0] (Hp h ((q0, .cells [.sl 1 (List.map c_u8 p0.b) 0, .int .i64 p0.at_]) :: (q1, .cells [.int .i64 p1.Kind, .int .i64 p1.At, .str p1.Name, mslO 2 b1_3 p1.Pairs, .str p1.Text, .int .i64 p1.Refs]) :: mo b1_3 c_T_scan_Pair p1.Pairs :: O)) fun d h' => ∃ r, G r ∧ d = .int .i64 r.1 ∧ ∃ b1_3' : Nat, (b1_3' = 0 → r.2.2.Pairs = []) ∧ OK h ((q0, .cells [.sl 1 (List.map c_u8 r.2.1.b) 0, .int .i64 r.2.1.at_]) :: (q1, .cells [.int .i64 r.2.2.Kind, .int .i64 r.2.2.At, .str r.2.2.Name, mslO 2 b1_3' r.2.2.Pairs, .str r.2.2.Text, .int .i64 r.2.2.Refs]) :: mo b1_3' c_T_scan_Pair r.2.2.Pairs :: O) ∧ h' = Hp h ((q0, .cells [.sl 1 (List.map c_u8 r.2.1.b) 0, .int .i64 r.2.1.at_]) :: (q1, .cells [.int .i64 r.2.2.Kind, .int .i64 r.2.2.At, .str r.2.2.Name, mslO 2 b1_3' r.2.2.Pairs, .str r.2.2.Text, .int .i64 r.2.2.Refs]) :: mo b1_3' c_T_scan_Pair r.2.2.Pairs :: O) := by
 refine CallsA.ret ?_
 refine C_bodyO Tryd.func35 rfl en_35 Tryd.ntmps35 rfl ?_
 rw [F_scan_scanner_tag] at hF
 refine C_seq ?_
 refine C_reg (mdl []) ?_
 refine S_a (v := .int _ _) rfl ?_
 refine S_nil ?_
 refine WP_scope ?_
 refine JW_step ?_
 refine C_seq ?_
 refine C_reg (mdl []) ?_
 refine S_a (v := .int _ _) rfl ?_
 refine S_nil ?_
 refine C_seq ?_
 refine C_reg (mdl [(6, 1)]) ?_
 refine S_all1 ok rfl ty_zc_32 ?_
 intro i1 hi1 ok
 refine S_nil ?_
 refine C_seq ?_
 refine C_reg (mdl []) ?_
 refine S_a (v := .snil) rfl ?_
 refine S_one 7 (v := .sl 1 (List.map c_u8 ([] : List UInt8)) 0) (.nil _) ?_
 refine S_nil ?_
 refine C_seq ?_
 refine C_reg (mdl []) ?_
 refine S_m (v := .ptr _ _) rfl ?_
 refine S_nilc (v := .ptr _ _) rfl rfl ?_
 refine S_faP rfl ty_fd_54_1 ty_sz_3 ?_
 refine S_ldP (j := 1) ok rfl rfl rfl hq0 (p_one (v := .int .i64 p0.at_) ty_ag_3 ty_sz_3 rfl) ?_
 refine S_bin rfl rfl (ev_add ..) ?_
 refine S_nilc (v := .ptr _ _) rfl rfl ?_
 refine S_faP rfl ty_fd_54_1 ty_sz_3 ?_
 refine S_st (j := 1) (cs' := [.sl 1 (List.map c_u8 p0.b) 0, .int .i64 (IntKind.wrap .i64 (p0.at_ + (1 : Int)))]) ok rfl rfl rfl hq0 rfl ty_sz_3 rfl rfl (fun ok => ?_)
 refine S_nil ?_
 refine C_seq ?_
 refine C_reg (mdl []) ?_
 refine S_m (v := .ptr _ _) rfl ?_
 obtain ⟨hpe, ok⟩ := Hp_pull 1 ok rfl
 rw [hpe]; clear hpe
 refine S_call (F_scan_scanner_name_ok (p0 := (⟨p0.b, (IntKind.wrap .i64 (p0.at_ + (1 : Int)))⟩ : T_scan_scanner)) (q0 := q0) h ((i1, .cells [.str ([] : List UInt8), .str ([] : List UInt8)]) :: (q1, .cells [.int .i64 p1.Kind, .int .i64 p1.At, .str p1.Name, mslO 2 b1_3 p1.Pairs, .str p1.Text, .int .i64 p1.Refs]) :: mo b1_3 c_T_scan_Pair p1.Pairs :: O) hq0 ok hF fun x2 _  ok hF => ?_) (.cons (.refl _) (.nil))
 refine S_m (v := .tup _) rfl ?_
 refine S_ext rfl rfl ?_
 refine S_ext rfl rfl ?_
 refine S_a (v := .str _) rfl ?_
 refine S_a (v := .int _ _) rfl ?_
 refine S_nil ?_
 refine C_seq ?_
 refine C_seq ?_
 refine C_reg (mdl []) ?_
 refine S_m (v := .int _ _) rfl ?_
 refine S_bin rfl rfl (ev_neq ..) ?_
 refine S_nil ?_
 refine C_if (b := (x2.1.2 != (0 : Int))) rfl hF (fun hb3 hF => ?_) (fun hb3 hF => ?_)
 ·
  refine C_seq ?_
  refine C_reg (mdl []) ?_
  refine S_m (v := .int _ _) rfl ?_
  refine S_a (v := .int _ _) rfl ?_
  refine S_nil ?_
  refine WP_ret ?_
  repeat (first | with_reducible refine Exit.sel_ret ?_ | with_reducible refine Exit.blk_ret ?_ | with_reducible refine Exit.jmp_ret ?_)
  have hwo : WO ((q0, .cells [.sl 1 (List.map c_u8 x2.2.b) 0, .int .i64 x2.2.at_]) :: (i1, .cells [.str ([] : List UInt8), .str ([] : List UInt8)]) :: (q1, .cells [.int .i64 p1.Kind, .int .i64 p1.At, .str p1.Name, mslO 2 b1_3 p1.Pairs, .str p1.Text, .int .i64 p1.Refs]) :: mo b1_3 c_T_scan_Pair p1.Pairs :: O) ((q0, .cells [.sl 1 (List.map c_u8 x2.2.b) 0, .int .i64 x2.2.at_]) :: (q1, .cells [.int .i64 p1.Kind, .int .i64 p1.At, .str p1.Name, mslO 2 b1_3 p1.Pairs, .str p1.Text, .int .i64 p1.Refs]) :: mo b1_3 c_T_scan_Pair p1.Pairs :: O) := (.keep (.drop (.keep (.keep (.refl O)))))
  refine C_ret (fn := Tryd.f35) rfl (.tmp (v := .int .i64 x2.1.2) rfl .nil) ?_
  exact ⟨_, _, (.refl _), (hwo.spec ok).2.2, _, F_some hF, rfl, b1_3, zb1_3, (hwo.spec ok).1, rfl⟩
 ·
  refine WP_skip ?_
  refine C_seq ?_
  refine C_reg (mdl []) ?_
  refine S_m (v := .ptr _ _) rfl ?_
  refine S_m (v := .ptr _ _) rfl ?_
  refine S_m (v := .str _) rfl ?_
  refine S_nilc (v := .ptr _ _) rfl rfl ?_
  refine S_faP rfl ty_fd_30_2 ty_sz_9 ?_
  refine S_st (j := 2) (cs' := [.int .i64 p1.Kind, .int .i64 p1.At, .str x2.1.1, mslO 2 b1_3 p1.Pairs, .str p1.Text, .int .i64 p1.Refs]) ok rfl rfl rfl hq1 rfl ty_sz_9 rfl rfl (fun ok => ?_)
  refine S_nilc (v := .ptr _ _) rfl rfl ?_
  refine S_faP rfl ty_fd_30_0 ty_sz_3 ?_
  refine S_st (j := 2) (cs' := [.int .i64 (2 : Int), .int .i64 p1.At, .str x2.1.1, mslO 2 b1_3 p1.Pairs, .str p1.Text, .int .i64 p1.Refs]) ok rfl rfl rfl hq1 rfl ty_sz_3 rfl rfl (fun ok => ?_)
  refine S_nil ?_
  refine C_seq ?_
  refine WP_label ?_
  refine C_gloop (σ := (List UInt8) × Int × Int × Int × (List UInt8) × (List T_scan_Pair) × (List UInt8) × Int × (List UInt8) × (List UInt8)) hF (fun (v : (List UInt8) × Int × Int × Int × (List UInt8) × (List T_scan_Pair) × (List UInt8) × Int × (List UInt8) × (List UInt8)) s' => match v with | (a4, a5, a6, a7, a8, a10, a11, a12, a13, a14) => ∃ g9 : Nat, (g9 = 0 → a10 = []) ∧ OK h ((q0, .cells [.sl 1 (List.map c_u8 a4) 0, .int .i64 a5]) :: (i1, .cells [.str a13, .str a14]) :: (q1, .cells [.int .i64 a6, .int .i64 a7, .str a8, mslO 2 g9 a10, .str a11, .int .i64 a12]) :: mo g9 c_T_scan_Pair a10 :: O) ∧ WS s' ⟨mkSl 118 [(0, .ptr q0 0), (1, .ptr q1 0), (6, .ptr i1 0)], Hp h ((q0, .cells [.sl 1 (List.map c_u8 a4) 0, .int .i64 a5]) :: (i1, .cells [.str a13, .str a14]) :: (q1, .cells [.int .i64 a6, .int .i64 a7, .str a8, mslO 2 g9 a10, .str a11, .int .i64 a12]) :: mo g9 c_T_scan_Pair a10 :: O)⟩) ?_ ?_
  ·
   have hwo : WO ((q0, .cells [.sl 1 (List.map c_u8 x2.2.b) 0, .int .i64 x2.2.at_]) :: (i1, .cells [.str ([] : List UInt8), .str ([] : List UInt8)]) :: (q1, .cells [.int .i64 (2 : Int), .int .i64 p1.At, .str x2.1.1, mslO 2 b1_3 p1.Pairs, .str p1.Text, .int .i64 p1.Refs]) :: mo b1_3 c_T_scan_Pair p1.Pairs :: O) ((q0, .cells [.sl 1 (List.map c_u8 x2.2.b) 0, .int .i64 x2.2.at_]) :: (i1, .cells [.str ([] : List UInt8), .str ([] : List UInt8)]) :: (q1, .cells [.int .i64 (2 : Int), .int .i64 p1.At, .str x2.1.1, mslO 2 b1_3 p1.Pairs, .str p1.Text, .int .i64 p1.Refs]) :: mo b1_3 c_T_scan_Pair p1.Pairs :: O) := (.keep (.keep (.keep (.keep (.refl O)))))
   exact ⟨b1_3, zb1_3, (hwo.spec ok).1, WS.mk' (.cons (.refl _) (.cons (.refl _) (.cons (.refl _) .nil))) ok hwo⟩
  ·
   rintro G15 hG16 rec17 ⟨a4, a5, a6, a7, a8, a10, a11, a12, a13, a14⟩ s' ih18 hF ⟨g9, zg9, ok, hws⟩
   refine WP_ws hws ?_
   clear hws s'
   rw [F_scan_scanner_tag_l0] at hF
   refine C_seq ?_
   refine C_reg (mdl []) ?_
   refine S_m (v := .ptr _ _) rfl ?_
   refine S_nilc (v := .ptr _ _) rfl rfl ?_
   refine S_faP rfl ty_fd_54_1 ty_sz_3 ?_
   refine S_ldP (j := 0) ok rfl rfl rfl hq0 (p_one (v := .int .i64 a5) ty_ag_3 ty_sz_3 rfl) ?_
   refine S_a (v := .int _ _) rfl ?_
   refine S_nil ?_
   refine C_seq ?_
   refine C_reg (mdl []) ?_
   refine S_m (v := .ptr _ _) rfl ?_
   refine S_m (v := .ptr _ _) rfl ?_
   refine S_m (v := .int _ _) rfl ?_
   refine S_call (F_scan_scanner_spaces_ok (p0 := (⟨a4, a5⟩ : T_scan_scanner)) (q0 := q0) h ((i1, .cells [.str a13, .str a14]) :: (q1, .cells [.int .i64 a6, .int .i64 a7, .str a8, mslO 2 g9 a10, .str a11, .int .i64 a12]) :: mo g9 c_T_scan_Pair a10 :: O) hq0 ok hF fun x19 _  ok hF => ?_) (.cons (.refl _) (.cons (.refl _) (.nil)))
   refine S_nilc (v := .ptr _ _) rfl rfl ?_
   refine S_faP rfl ty_fd_54_1 ty_sz_3 ?_
   refine S_st (j := 0) (cs' := [.sl 1 (List.map c_u8 a4) 0, .int .i64 x19]) ok rfl rfl rfl hq0 rfl ty_sz_3 rfl rfl (fun ok => ?_)
   refine S_nil ?_
   refine C_seq ?_
   refine C_seq ?_
   refine C_reg (mdl []) ?_
   refine S_m (v := .ptr _ _) rfl ?_
   refine S_call (F_scan_scanner_here_ok (p0 := (⟨a4, x19⟩ : T_scan_scanner)) (q0 := q0) h ((i1, .cells [.str a13, .str a14]) :: (q1, .cells [.int .i64 a6, .int .i64 a7, .str a8, mslO 2 g9 a10, .str a11, .int .i64 a12]) :: mo g9 c_T_scan_Pair a10 :: O) hq0 ok hF fun x20 _  ok hF => ?_) (.cons (.refl _) (.cons (.refl _) (.nil)))
   refine S_nil ?_
   refine C_if (b := x20) rfl hF (fun hb21 hF => ?_) (fun hb21 hF => ?_)
   ·
    refine C_seq ?_
    refine C_reg (mdl []) ?_
    refine S_m (v := .ptr _ _) rfl ?_
    refine S_nilc (v := .ptr _ _) rfl rfl ?_
    refine S_faP rfl ty_fd_30_0 ty_sz_3 ?_
    refine S_st (j := 2) (cs' := [.int .i64 (4 : Int), .int .i64 a7, .str a8, mslO 2 g9 a10, .str a11, .int .i64 a12]) ok rfl rfl rfl hq1 rfl ty_sz_3 rfl rfl (fun ok => ?_)
    refine S_nil ?_
    refine C_seq ?_
    refine C_reg (mdl []) ?_
    refine S_m (v := .ptr _ _) rfl ?_
    refine S_call (F_scan_scanner_sign_ok (p0 := (⟨a4, x19⟩ : T_scan_scanner)) (q0 := q0) h ((i1, .cells [.str a13, .str a14]) :: (q1, .cells [.int .i64 (4 : Int), .int .i64 a7, .str a8, mslO 2 g9 a10, .str a11, .int .i64 a12]) :: mo g9 c_T_scan_Pair a10 :: O) hq0 ok hF fun x22 _  ok hF => ?_) (.cons (.refl _) (.cons (.refl _) (.nil)))
    refine S_a (v := .int _ _) rfl ?_
    refine S_nil ?_
    refine WP_ret ?_
    replace hF := hG16 _ (F_some hF)
    repeat (first | with_reducible refine Exit.sel_ret ?_ | with_reducible refine Exit.blk_ret ?_ | with_reducible refine Exit.jmp_ret ?_)
    have hwo : WO ((q0, .cells [.sl 1 (List.map c_u8 x22.2.b) 0, .int .i64 x22.2.at_]) :: (i1, .cells [.str a13, .str a14]) :: (q1, .cells [.int .i64 (4 : Int), .int .i64 a7, .str a8, mslO 2 g9 a10, .str a11, .int .i64 a12]) :: mo g9 c_T_scan_Pair a10 :: O) ((q0, .cells [.sl 1 (List.map c_u8 x22.2.b) 0, .int .i64 x22.2.at_]) :: (q1, .cells [.int .i64 (4 : Int), .int .i64 a7, .str a8, mslO 2 g9 a10, .str a11, .int .i64 a12]) :: mo g9 c_T_scan_Pair a10 :: O) := (.keep (.drop (.keep (.keep (.refl O)))))
    refine C_ret (fn := Tryd.f35) rfl (.tmp (v := .int .i64 x22.1) rfl .nil) ?_
    exact ⟨_, _, (.refl _), (hwo.spec ok).2.2, _, F_some hF, rfl, g9, zg9, (hwo.spec ok).1, rfl⟩
   ·
    refine WP_skip ?_
    refine C_seq ?_
    refine C_seq ?_
    refine C_reg (mdl []) ?_
    refine S_m (v := .ptr _ _) rfl ?_
    refine S_call (F_scan_scanner_here_ok (p0 := (⟨a4, x19⟩ : T_scan_scanner)) (q0 := q0) h ((i1, .cells [.str a13, .str a14]) :: (q1, .cells [.int .i64 a6, .int .i64 a7, .str a8, mslO 2 g9 a10, .str a11, .int .i64 a12]) :: mo g9 c_T_scan_Pair a10 :: O) hq0 ok hF fun x23 _  ok hF => ?_) (.cons (.refl _) (.cons (.refl _) (.nil)))
    refine S_nil ?_
    refine C_if (b := x23) rfl hF (fun hb24 hF => ?_) (fun hb24 hF => ?_)
    ·
     refine C_seq ?_
     refine C_reg (mdl []) ?_
     refine S_m (v := .ptr _ _) rfl ?_
     refine S_call (F_scan_scanner_sign_ok (p0 := (⟨a4, x19⟩ : T_scan_scanner)) (q0 := q0) h ((i1, .cells [.str a13, .str a14]) :: (q1, .cells [.int .i64 a6, .int .i64 a7, .str a8, mslO 2 g9 a10, .str a11, .int .i64 a12]) :: mo g9 c_T_scan_Pair a10 :: O) hq0 ok hF fun x25 _  ok hF => ?_) (.cons (.refl _) (.cons (.refl _) (.nil)))
     refine S_a (v := .int _ _) rfl ?_
     refine S_nil ?_
     refine WP_ret ?_
     replace hF := hG16 _ (F_some hF)
     repeat (first | with_reducible refine Exit.sel_ret ?_ | with_reducible refine Exit.blk_ret ?_ | with_reducible refine Exit.jmp_ret ?_)
     have hwo : WO ((q0, .cells [.sl 1 (List.map c_u8 x25.2.b) 0, .int .i64 x25.2.at_]) :: (i1, .cells [.str a13, .str a14]) :: (q1, .cells [.int .i64 a6, .int .i64 a7, .str a8, mslO 2 g9 a10, .str a11, .int .i64 a12]) :: mo g9 c_T_scan_Pair a10 :: O) ((q0, .cells [.sl 1 (List.map c_u8 x25.2.b) 0, .int .i64 x25.2.at_]) :: (q1, .cells [.int .i64 a6, .int .i64 a7, .str a8, mslO 2 g9 a10, .str a11, .int .i64 a12]) :: mo g9 c_T_scan_Pair a10 :: O) := (.keep (.drop (.keep (.keep (.refl O)))))
     refine C_ret (fn := Tryd.f35) rfl (.tmp (v := .int .i64 x25.1) rfl .nil) ?_
     exact ⟨_, _, (.refl _), (hwo.spec ok).2.2, _, F_some hF, rfl, g9, zg9, (hwo.spec ok).1, rfl⟩
    ·
     refine WP_skip ?_
     refine C_seq ?_
     refine C_seq ?_
     refine C_reg (mdl []) ?_
     refine S_m (v := .ptr _ _) rfl ?_
     refine S_nilc (v := .ptr _ _) rfl rfl ?_
     refine S_faP rfl ty_fd_54_1 ty_sz_3 ?_
     refine S_ldP (j := 0) ok rfl rfl rfl hq0 (p_one (v := .int .i64 x19) ty_ag_3 ty_sz_3 rfl) ?_
     refine S_m (v := .int _ _) rfl ?_
     refine S_bin rfl rfl (ev_eql ..) ?_
     refine S_nil ?_
     refine C_if (b := (x19 == a5)) rfl hF (fun hb26 hF => ?_) (fun hb26 hF => ?_)
     ·
      refine C_seq ?_
      refine C_reg (mdl []) ?_
      refine S_a (v := .int _ _) rfl ?_
      refine S_nil ?_
      refine WP_ret ?_
      replace hF := hG16 _ (F_some hF)
      repeat (first | with_reducible refine Exit.sel_ret ?_ | with_reducible refine Exit.blk_ret ?_ | with_reducible refine Exit.jmp_ret ?_)
      have hwo : WO ((q0, .cells [.sl 1 (List.map c_u8 a4) 0, .int .i64 x19]) :: (i1, .cells [.str a13, .str a14]) :: (q1, .cells [.int .i64 a6, .int .i64 a7, .str a8, mslO 2 g9 a10, .str a11, .int .i64 a12]) :: mo g9 c_T_scan_Pair a10 :: O) ((q0, .cells [.sl 1 (List.map c_u8 a4) 0, .int .i64 x19]) :: (q1, .cells [.int .i64 a6, .int .i64 a7, .str a8, mslO 2 g9 a10, .str a11, .int .i64 a12]) :: mo g9 c_T_scan_Pair a10 :: O) := (.keep (.drop (.keep (.keep (.refl O)))))
      refine C_ret (fn := Tryd.f35) rfl (.tmp (v := .int .i64 (23 : Int)) rfl .nil) ?_
      exact ⟨_, _, (.refl _), (hwo.spec ok).2.2, _, F_some hF, rfl, g9, zg9, (hwo.spec ok).1, rfl⟩
     ·
      refine WP_skip ?_
      refine C_seq ?_
      refine C_seq ?_
      refine C_reg (mdl []) ?_
      refine S_m (v := .ptr _ _) rfl ?_
      refine S_call (F_scan_scanner_name_ok (p0 := (⟨a4, x19⟩ : T_scan_scanner)) (q0 := q0) h ((i1, .cells [.str a13, .str a14]) :: (q1, .cells [.int .i64 a6, .int .i64 a7, .str a8, mslO 2 g9 a10, .str a11, .int .i64 a12]) :: mo g9 c_T_scan_Pair a10 :: O) hq0 ok hF fun x27 _  ok hF => ?_) (.cons (.refl _) (.nil))
      refine S_m (v := .tup _) rfl ?_
      refine S_ext rfl rfl ?_
      refine S_ext rfl rfl ?_
      refine S_faP rfl ty_fd_32_0 ty_sz_9 ?_
      refine S_st (j := 1) (cs' := [.str x27.1.1, .str a14]) ok rfl rfl rfl hi1 rfl ty_sz_9 rfl rfl (fun ok => ?_)
      refine S_a (v := .int _ _) rfl ?_
      refine S_nil ?_
      refine C_seq ?_
      refine C_reg (mdl []) ?_
      refine S_m (v := .int _ _) rfl ?_
      refine S_bin rfl rfl (ev_neq ..) ?_
      refine S_nil ?_
      refine C_if (b := (x27.1.2 != (0 : Int))) rfl hF (fun hb28 hF => ?_) (fun hb28 hF => ?_)
      ·
       refine C_seq ?_
       refine C_reg (mdl []) ?_
       refine S_m (v := .int _ _) rfl ?_
       refine S_a (v := .int _ _) rfl ?_
       refine S_nil ?_
       refine WP_ret ?_
       replace hF := hG16 _ (F_some hF)
       repeat (first | with_reducible refine Exit.sel_ret ?_ | with_reducible refine Exit.blk_ret ?_ | with_reducible refine Exit.jmp_ret ?_)
       have hwo : WO ((q0, .cells [.sl 1 (List.map c_u8 x27.2.b) 0, .int .i64 x27.2.at_]) :: (i1, .cells [.str x27.1.1, .str a14]) :: (q1, .cells [.int .i64 a6, .int .i64 a7, .str a8, mslO 2 g9 a10, .str a11, .int .i64 a12]) :: mo g9 c_T_scan_Pair a10 :: O) ((q0, .cells [.sl 1 (List.map c_u8 x27.2.b) 0, .int .i64 x27.2.at_]) :: (q1, .cells [.int .i64 a6, .int .i64 a7, .str a8, mslO 2 g9 a10, .str a11, .int .i64 a12]) :: mo g9 c_T_scan_Pair a10 :: O) := (.keep (.drop (.keep (.keep (.refl O)))))
       refine C_ret (fn := Tryd.f35) rfl (.tmp (v := .int .i64 x27.1.2) rfl .nil) ?_
       exact ⟨_, _, (.refl _), (hwo.spec ok).2.2, _, F_some hF, rfl, g9, zg9, (hwo.spec ok).1, rfl⟩
      ·
       refine WP_skip ?_
       refine C_seq ?_
       refine C_seq ?_
       refine C_reg (mdl []) ?_
       refine S_m (v := .ptr _ _) rfl ?_
       refine S_call (F_scan_scanner_equals_ok (p0 := x27.2) (q0 := q0) h ((i1, .cells [.str x27.1.1, .str a14]) :: (q1, .cells [.int .i64 a6, .int .i64 a7, .str a8, mslO 2 g9 a10, .str a11, .int .i64 a12]) :: mo g9 c_T_scan_Pair a10 :: O) hq0 ok hF fun x29 _  ok hF => ?_) (.cons (.refl _) (.nil))
       refine S_a (v := .int _ _) rfl ?_
       refine S_nil ?_
       refine C_seq ?_
       refine C_reg (mdl []) ?_
       refine S_m (v := .int _ _) rfl ?_
       refine S_bin rfl rfl (ev_neq ..) ?_
       refine S_nil ?_
       refine C_if (b := (x29.1 != (0 : Int))) rfl hF (fun hb30 hF => ?_) (fun hb30 hF => ?_)
       ·
        refine C_seq ?_
        refine C_reg (mdl []) ?_
        refine S_m (v := .int _ _) rfl ?_
        refine S_a (v := .int _ _) rfl ?_
        refine S_nil ?_
        refine WP_ret ?_
        replace hF := hG16 _ (F_some hF)
        repeat (first | with_reducible refine Exit.sel_ret ?_ | with_reducible refine Exit.blk_ret ?_ | with_reducible refine Exit.jmp_ret ?_)
        have hwo : WO ((q0, .cells [.sl 1 (List.map c_u8 x29.2.b) 0, .int .i64 x29.2.at_]) :: (i1, .cells [.str x27.1.1, .str a14]) :: (q1, .cells [.int .i64 a6, .int .i64 a7, .str a8, mslO 2 g9 a10, .str a11, .int .i64 a12]) :: mo g9 c_T_scan_Pair a10 :: O) ((q0, .cells [.sl 1 (List.map c_u8 x29.2.b) 0, .int .i64 x29.2.at_]) :: (q1, .cells [.int .i64 a6, .int .i64 a7, .str a8, mslO 2 g9 a10, .str a11, .int .i64 a12]) :: mo g9 c_T_scan_Pair a10 :: O) := (.keep (.drop (.keep (.keep (.refl O)))))
        refine C_ret (fn := Tryd.f35) rfl (.tmp (v := .int .i64 x29.1) rfl .nil) ?_
        exact ⟨_, _, (.refl _), (hwo.spec ok).2.2, _, F_some hF, rfl, g9, zg9, (hwo.spec ok).1, rfl⟩
       ·
        refine WP_skip ?_
        refine C_seq ?_
        refine C_seq ?_
        refine C_reg (mdl []) ?_
        refine S_m (v := .ptr _ _) rfl ?_
        refine S_call (F_scan_scanner_quoted_ok (p0 := x29.2) (q0 := q0) h ((i1, .cells [.str x27.1.1, .str a14]) :: (q1, .cells [.int .i64 a6, .int .i64 a7, .str a8, mslO 2 g9 a10, .str a11, .int .i64 a12]) :: mo g9 c_T_scan_Pair a10 :: O) hq0 ok hF fun x31 _  ok hF => ?_) (.cons (.refl _) (.nil))
        refine S_m (v := .tup _) rfl ?_
        refine S_ext rfl rfl ?_
        refine S_ext rfl rfl ?_
        refine S_a (v := .sl _ _ _) rfl ?_
        refine S_a (v := .int _ _) rfl ?_
        refine S_nil ?_
        refine C_seq ?_
        refine C_reg (mdl []) ?_
        refine S_m (v := .int _ _) rfl ?_
        refine S_bin rfl rfl (ev_neq ..) ?_
        refine S_nil ?_
        refine C_if (b := (x31.1.2 != (0 : Int))) rfl hF (fun hb32 hF => ?_) (fun hb32 hF => ?_)
        ·
         refine C_seq ?_
         refine C_reg (mdl []) ?_
         refine S_m (v := .int _ _) rfl ?_
         refine S_a (v := .int _ _) rfl ?_
         refine S_nil ?_
         refine WP_ret ?_
         replace hF := hG16 _ (F_some hF)
         repeat (first | with_reducible refine Exit.sel_ret ?_ | with_reducible refine Exit.blk_ret ?_ | with_reducible refine Exit.jmp_ret ?_)
         have hwo : WO ((q0, .cells [.sl 1 (List.map c_u8 x31.2.b) 0, .int .i64 x31.2.at_]) :: (i1, .cells [.str x27.1.1, .str a14]) :: (q1, .cells [.int .i64 a6, .int .i64 a7, .str a8, mslO 2 g9 a10, .str a11, .int .i64 a12]) :: mo g9 c_T_scan_Pair a10 :: O) ((q0, .cells [.sl 1 (List.map c_u8 x31.2.b) 0, .int .i64 x31.2.at_]) :: (q1, .cells [.int .i64 a6, .int .i64 a7, .str a8, mslO 2 g9 a10, .str a11, .int .i64 a12]) :: mo g9 c_T_scan_Pair a10 :: O) := (.keep (.drop (.keep (.keep (.refl O)))))
         refine C_ret (fn := Tryd.f35) rfl (.tmp (v := .int .i64 x31.1.2) rfl .nil) ?_
         exact ⟨_, _, (.refl _), (hwo.spec ok).2.2, _, F_some hF, rfl, g9, zg9, (hwo.spec ok).1, rfl⟩
        ·
         refine WP_skip ?_
         refine C_seq ?_
         refine C_seq ?_
         refine C_reg (mdl []) ?_
         refine S_m (v := .sl _ _ _) rfl ?_
         refine S_call (F_refer_ReadValue_ok _ hF fun x33 _ hF => ?_) (.cons (.refl _) (.nil))
         refine S_m (v := .tup _) rfl ?_
         refine S_ext rfl rfl ?_
         refine S_ext rfl rfl ?_
         refine S_ext rfl rfl ?_
         refine S_faP rfl ty_fd_32_1 ty_sz_9 ?_
         refine S_st (j := 1) (cs' := [.str x27.1.1, .str x33.1]) ok rfl rfl rfl hi1 rfl ty_sz_9 rfl rfl (fun ok => ?_)
         refine S_a (v := .int _ _) rfl ?_
         refine S_nil ?_
         refine C_seq ?_
         refine C_reg (mdl []) ?_
         refine S_m (v := .int _ _) rfl ?_
         refine S_bin rfl rfl (ev_neq ..) ?_
         refine S_nil ?_
         refine C_if (b := (x33.2.2 != (0 : Int))) rfl hF (fun hb34 hF => ?_) (fun hb34 hF => ?_)
         ·
          refine C_seq ?_
          refine C_reg (mdl []) ?_
          refine S_m (v := .int _ _) rfl ?_
          refine S_a (v := .int _ _) rfl ?_
          refine S_nil ?_
          refine WP_ret ?_
          replace hF := hG16 _ (F_some hF)
          repeat (first | with_reducible refine Exit.sel_ret ?_ | with_reducible refine Exit.blk_ret ?_ | with_reducible refine Exit.jmp_ret ?_)
          have hwo : WO ((q0, .cells [.sl 1 (List.map c_u8 x31.2.b) 0, .int .i64 x31.2.at_]) :: (i1, .cells [.str x27.1.1, .str x33.1]) :: (q1, .cells [.int .i64 a6, .int .i64 a7, .str a8, mslO 2 g9 a10, .str a11, .int .i64 a12]) :: mo g9 c_T_scan_Pair a10 :: O) ((q0, .cells [.sl 1 (List.map c_u8 x31.2.b) 0, .int .i64 x31.2.at_]) :: (q1, .cells [.int .i64 a6, .int .i64 a7, .str a8, mslO 2 g9 a10, .str a11, .int .i64 a12]) :: mo g9 c_T_scan_Pair a10 :: O) := (.keep (.drop (.keep (.keep (.refl O)))))
          refine C_ret (fn := Tryd.f35) rfl (.tmp (v := .int .i64 x33.2.2) rfl .nil) ?_
          exact ⟨_, _, (.refl _), (hwo.spec ok).2.2, _, F_some hF, rfl, g9, zg9, (hwo.spec ok).1, rfl⟩
         ·
          refine WP_skip ?_
          refine C_join hF (fun (_ : Unit) s' => OK h ((q0, .cells [.sl 1 (List.map c_u8 x31.2.b) 0, .int .i64 x31.2.at_]) :: (i1, .cells [.str x27.1.1, .str x33.1]) :: (q1, .cells [.int .i64 a6, .int .i64 a7, .str a8, mslO 2 g9 a10, .str a11, .int .i64 a12]) :: mo g9 c_T_scan_Pair a10 :: O) ∧ WS s' ⟨mkSl 118 [(0, .ptr q0 0), (1, .ptr q1 0), (6, .ptr i1 0)], Hp h ((q0, .cells [.sl 1 (List.map c_u8 x31.2.b) 0, .int .i64 x31.2.at_]) :: (i1, .cells [.str x27.1.1, .str x33.1]) :: (q1, .cells [.int .i64 a6, .int .i64 a7, .str a8, mslO 2 g9 a10, .str a11, .int .i64 a12]) :: mo g9 c_T_scan_Pair a10 :: O)⟩) (fun J40 hF => ?_) ?_
          ·
           refine C_seq ?_
           refine C_reg (mdl []) ?_
           refine S_m (v := .ptr _ _) rfl ?_
           refine S_nilc (v := .ptr _ _) rfl rfl ?_
           refine S_faP rfl ty_fd_30_3 ty_sz_28 ?_
           refine S_ldP (j := 2) ok rfl rfl rfl hq1 (p_one (v := mslO 2 g9 a10) ty_ag_28 ty_sz_28 rfl) ?_
           refine S_lenO zg9 rfl ty_sl_28 ?_
           refine S_m (v := .int _ _) rfl ?_
           refine S_nil ?_
           refine WP_block ?_
           refine C_loop (σ := Int) hF (fun (a41 : Int) s' => OK h ((q0, .cells [.sl 1 (List.map c_u8 x31.2.b) 0, .int .i64 x31.2.at_]) :: (i1, .cells [.str x27.1.1, .str x33.1]) :: (q1, .cells [.int .i64 a6, .int .i64 a7, .str a8, mslO 2 g9 a10, .str a11, .int .i64 a12]) :: mo g9 c_T_scan_Pair a10 :: O) ∧ WS s' ⟨mkSl 118 [(0, .ptr q0 0), (1, .ptr q1 0), (6, .ptr i1 0), (96, mslO 2 g9 a10), (97, .int .i64 (a10.length : Int)), (98, .int .i64 a41)], Hp h ((q0, .cells [.sl 1 (List.map c_u8 x31.2.b) 0, .int .i64 x31.2.at_]) :: (i1, .cells [.str x27.1.1, .str x33.1]) :: (q1, .cells [.int .i64 a6, .int .i64 a7, .str a8, mslO 2 g9 a10, .str a11, .int .i64 a12]) :: mo g9 c_T_scan_Pair a10 :: O)⟩) ?_ ?_
           ·
            have hwo : WO ((q0, .cells [.sl 1 (List.map c_u8 x31.2.b) 0, .int .i64 x31.2.at_]) :: (i1, .cells [.str x27.1.1, .str x33.1]) :: (q1, .cells [.int .i64 a6, .int .i64 a7, .str a8, mslO 2 g9 a10, .str a11, .int .i64 a12]) :: mo g9 c_T_scan_Pair a10 :: O) ((q0, .cells [.sl 1 (List.map c_u8 x31.2.b) 0, .int .i64 x31.2.at_]) :: (i1, .cells [.str x27.1.1, .str x33.1]) :: (q1, .cells [.int .i64 a6, .int .i64 a7, .str a8, mslO 2 g9 a10, .str a11, .int .i64 a12]) :: mo g9 c_T_scan_Pair a10 :: O) := (.keep (.keep (.keep (.keep (.refl O)))))
            exact ⟨(hwo.spec ok).1, WS.mk' (.cons (.refl _) (.cons (.refl _) (.cons (.refl _) (.cons (.refl _) (.cons (.refl _) (.cons (.refl _) .nil)))))) ok hwo⟩
           ·
            rintro G42 hG43 rec44 a41 s' ih45 hF ⟨ok, hws⟩
            refine WP_ws hws ?_
            clear hws s'
            rw [F_scan_scanner_tag_l1] at hF
            refine C_seq ?_
            refine C_reg (mdl []) ?_
            refine S_bin rfl rfl (ev_lss ..) ?_
            refine S_nil ?_
            refine C_seq ?_
            refine C_if (b := (decide (a41 < (a10.length : Int)))) rfl hF (fun hb46 hF => ?_) (fun hb46 hF => ?_)
            ·
             refine WP_skip ?_
             refine C_seq ?_
             refine WP_block ?_
             refine C_seq ?_
             refine C_reg (mdl [(11, 1)]) ?_
             refine S_ixO zg9 rfl rfl ty_sl_28 ty_sz_32 hF (fun x47 hx47 hF => ?_)
             refine S_ldO (q := 2) (j := 3) (f0 := 0) ok rfl zg9 rfl rfl (fun _ => rfl) hx47 rfl rfl (p_agg (vs := c_T_scan_Pair x47) ty_ag_32 ty_sz_32 rfl rfl) ?_
             refine S_all1 ok rfl ty_zc_32 ?_
             intro i48 hi48 ok
             refine S_st (j := 0) (cs' := [.str x47.Name, .str x47.Value]) ok rfl rfl rfl hi48 rfl ty_sz_32 rfl rfl (fun ok => ?_)
             refine S_nil ?_
             refine C_seq ?_
             refine C_reg (mdl []) ?_
             refine S_faP rfl ty_fd_32_0 ty_sz_9 ?_
             refine S_ldP (j := 0) ok rfl rfl rfl hi48 (p_one (v := .str x47.Name) ty_ag_9 ty_sz_9 rfl) ?_
             refine S_faP rfl ty_fd_32_0 ty_sz_9 ?_
             refine S_ldP (j := 2) ok rfl rfl rfl hi1 (p_one (v := .str x27.1.1) ty_ag_9 ty_sz_9 rfl) ?_
             refine S_bin rfl rfl e_seql ?_
             refine S_nil ?_
             refine C_if (b := (x47.Name == x27.1.1)) rfl hF (fun hb49 hF => ?_) (fun hb49 hF => ?_)
             ·
              refine C_seq ?_
              refine C_reg (mdl []) ?_
              refine S_a (v := .int _ _) rfl ?_
              refine S_nil ?_
              refine WP_ret ?_
              replace hF := hG43 _ (F_some hF)
              replace hF := hG16 _ (F_some hF)
              repeat (first | with_reducible refine Exit.sel_ret ?_ | with_reducible refine Exit.blk_ret ?_ | with_reducible refine Exit.jmp_ret ?_)
              have hwo : WO ((i48, .cells [.str x47.Name, .str x47.Value]) :: (q0, .cells [.sl 1 (List.map c_u8 x31.2.b) 0, .int .i64 x31.2.at_]) :: (i1, .cells [.str x27.1.1, .str x33.1]) :: (q1, .cells [.int .i64 a6, .int .i64 a7, .str a8, mslO 2 g9 a10, .str a11, .int .i64 a12]) :: mo g9 c_T_scan_Pair a10 :: O) ((q0, .cells [.sl 1 (List.map c_u8 x31.2.b) 0, .int .i64 x31.2.at_]) :: (q1, .cells [.int .i64 a6, .int .i64 a7, .str a8, mslO 2 g9 a10, .str a11, .int .i64 a12]) :: mo g9 c_T_scan_Pair a10 :: O) := (.drop (.keep (.drop (.keep (.keep (.refl O))))))
              refine C_ret (fn := Tryd.f35) rfl (.tmp (v := .int .i64 (27 : Int)) rfl .nil) ?_
              exact ⟨_, _, (.refl _), (hwo.spec ok).2.2, _, F_some hF, rfl, g9, zg9, (hwo.spec ok).1, rfl⟩
             ·
              refine WP_skip ?_
              refine C_reg (mdl []) ?_
              refine S_bin rfl rfl (ev_add ..) ?_
              refine S_m (v := .int _ _) rfl ?_
              refine S_nil ?_
              refine ih45 (IntKind.wrap .i64 (a41 + (1 : Int))) _ hF ?_
              have hwo : WO ((i48, .cells [.str x47.Name, .str x47.Value]) :: (q0, .cells [.sl 1 (List.map c_u8 x31.2.b) 0, .int .i64 x31.2.at_]) :: (i1, .cells [.str x27.1.1, .str x33.1]) :: (q1, .cells [.int .i64 a6, .int .i64 a7, .str a8, mslO 2 g9 a10, .str a11, .int .i64 a12]) :: mo g9 c_T_scan_Pair a10 :: O) ((q0, .cells [.sl 1 (List.map c_u8 x31.2.b) 0, .int .i64 x31.2.at_]) :: (i1, .cells [.str x27.1.1, .str x33.1]) :: (q1, .cells [.int .i64 a6, .int .i64 a7, .str a8, mslO 2 g9 a10, .str a11, .int .i64 a12]) :: mo g9 c_T_scan_Pair a10 :: O) := (.drop (.keep (.keep (.keep (.keep (.refl O))))))
              exact ⟨(hwo.spec ok).1, WS.mk' (.cons (.refl _) (.cons (.refl _) (.cons (.refl _) (.cons (.refl _) (.cons (.refl _) (.cons (.refl _) .nil)))))) ok hwo⟩
            ·
             refine WP_exit ?_
             simp only [Exit.sel, Exit.blk, Exit.jmp, if_true, if_false, reduceIte, Nat.reduceEqDiff, Nat.succ_ne_zero, Nat.zero_ne_one, Nat.one_ne_zero]
             replace hF := hG43 _ (F_some hF)
             have hwo : WO ((q0, .cells [.sl 1 (List.map c_u8 x31.2.b) 0, .int .i64 x31.2.at_]) :: (i1, .cells [.str x27.1.1, .str x33.1]) :: (q1, .cells [.int .i64 a6, .int .i64 a7, .str a8, mslO 2 g9 a10, .str a11, .int .i64 a12]) :: mo g9 c_T_scan_Pair a10 :: O) ((q0, .cells [.sl 1 (List.map c_u8 x31.2.b) 0, .int .i64 x31.2.at_]) :: (i1, .cells [.str x27.1.1, .str x33.1]) :: (q1, .cells [.int .i64 a6, .int .i64 a7, .str a8, mslO 2 g9 a10, .str a11, .int .i64 a12]) :: mo g9 c_T_scan_Pair a10 :: O) := (.keep (.keep (.keep (.keep (.refl O)))))
             exact ⟨(), hF, (hwo.spec ok).1, WS.mk' (.cons (.refl _) (.cons (.refl _) (.cons (.refl _) .nil))) ok hwo⟩
          ·
           rintro ⟨⟩ s' hF ⟨ok, hws⟩
           refine WP_ws hws ?_
           clear hws s'
           refine C_seq ?_
           refine C_drw (mdl [(115, 1)]) (by kernel_rfl) (by kernel_rfl) ?_
           refine S_m (v := .ptr _ _) rfl ?_
           refine S_m (v := .ptr _ _) rfl ?_
           refine S_nilc (v := .ptr _ _) rfl rfl ?_
           refine S_faP rfl ty_fd_30_3 ty_sz_28 ?_
           refine S_ldP (j := 2) ok rfl rfl rfl hq1 (p_one (v := mslO 2 g9 a10) ty_ag_28 ty_sz_28 rfl) ?_
           refine S_ldP (j := 1) ok rfl rfl rfl hi1 (p_agg (vs := c_T_scan_Pair (⟨x27.1.1, x33.1⟩ : T_scan_Pair)) ty_ag_32 ty_sz_32 rfl rfl) ?_
           refine S_lit0 (cs := [.str (⟨x27.1.1, x33.1⟩ : T_scan_Pair).Name, .str (⟨x27.1.1, x33.1⟩ : T_scan_Pair).Value]) (es := (List.map c_T_scan_Pair [(⟨x27.1.1, x33.1⟩ : T_scan_Pair)])) rfl ty_el_28 rfl (by kernel_rfl) (by kernel_rfl) ?_
           refine S_appO (j := 3) (M := [(⟨x27.1.1, x33.1⟩ : T_scan_Pair)]) ok zg9 rfl rfl src_sl (fun _ => rfl) rfl ty_el_28 ty_ni_28 hF ?_
           intro u50 zu50 ok hF
           obtain ⟨a51, ha51, hF⟩ := F_let hF
           rw [← ha51] at ok zu50
           rw [← ha51]
           refine S_nilc (v := .ptr _ _) rfl rfl ?_
           refine S_faP rfl ty_fd_30_3 ty_sz_28 ?_
           refine S_stB (j := 2) (cs' := [.int .i64 a6, .int .i64 a7, .str a8, mslO 2 u50 a51, .str a11, .int .i64 a12]) ok rfl rfl rfl hq1 ty_sz_28 rfl rfl (fun ok => ?_)
           refine S_nil ?_
           refine WP_goto ?_
           repeat (first | with_reducible refine Exit.sel_goto ?_ | with_reducible refine Exit.blk_goto ?_)
           refine jmp_goto rfl ?_
           refine ih18 (x31.2.b, x31.2.at_, a6, a7, a8, a51, a11, a12, x27.1.1, x33.1) _ hF ?_
           have hwo : WO ((q0, .cells [.sl 1 (List.map c_u8 x31.2.b) 0, .int .i64 x31.2.at_]) :: (i1, .cells [.str x27.1.1, .str x33.1]) :: (q1, .cells [.int .i64 a6, .int .i64 a7, .str a8, mslO 2 u50 a51, .str a11, .int .i64 a12]) :: mo u50 c_T_scan_Pair a51 :: O) ((q0, .cells [.sl 1 (List.map c_u8 x31.2.b) 0, .int .i64 x31.2.at_]) :: (i1, .cells [.str x27.1.1, .str x33.1]) :: (q1, .cells [.int .i64 a6, .int .i64 a7, .str a8, mslO 2 u50 a51, .str a11, .int .i64 a12]) :: mo u50 c_T_scan_Pair a51 :: O) := (.keep (.keep (.keep (.keep (.refl O)))))
           exact ⟨u50, zu50, (hwo.spec ok).1, WS.mk' (.cons (.refl _) (.cons (.refl _) (.cons (.refl _) .nil))) ok hwo⟩
theorem F_scan_scanner_tag_ok {β : Type} {f0 : Int × T_scan_scanner × T_scan_Token → Option β} {G : β → Prop} {R : D → Heap → Prop} {p0 : T_scan_scanner} {p1 : T_scan_Token} {q0 : Nat} {q1 : Nat} {b1_3 : Nat} (h : Heap) (O : List (Nat × AObj)) (hq0 : q0 ≠ 0) (hq1 : q1 ≠ 0) (zb1_3 : b1_3 = 0 → p1.Pairs = []) (ok : OK h ((q0, .cells [.sl 1 (List.map c_u8 p0.b) 0, .int .i64 p0.at_]) :: (q1, .cells [.int .i64 p1.Kind, .int .i64 p1.At, .str p1.Name, mslO 2 b1_3 p1.Pairs, .str p1.Text, .int .i64 p1.Refs]) :: mo b1_3 c_T_scan_Pair p1.Pairs :: O)) (hF : OptP ((F_scan_scanner_tag p0 p1).bind f0) G) (hk : ∀ r b1_3', F_scan_scanner_tag p0 p1 = some r → (b1_3' = 0 → r.2.2.Pairs = []) → OK h ((q0, .cells [.sl 1 (List.map c_u8 r.2.1.b) 0, .int .i64 r.2.1.at_]) :: (q1, .cells [.int .i64 r.2.2.Kind, .int .i64 r.2.2.At, .str r.2.2.Name, mslO 2 b1_3' r.2.2.Pairs, .str r.2.2.Text, .int .i64 r.2.2.Refs]) :: mo b1_3' c_T_scan_Pair r.2.2.Pairs :: O) → OptP (f0 r) G → R (.int .i64 r.1) (Hp h ((q0, .cells [.sl 1 (List.map c_u8 r.2.1.b) 0, .int .i64 r.2.1.at_]) :: (q1, .cells [.int .i64 r.2.2.Kind, .int .i64 r.2.2.At, .str r.2.2.Name, mslO 2 b1_3' r.2.2.Pairs, .str r.2.2.Text, .int .i64 r.2.2.Refs]) :: mo b1_3' c_T_scan_Pair r.2.2.Pairs :: O))) : CallsA Tryd.prog 35 [.ptr q0 0, .ptr q1 0] (Hp h ((q0, .cells [.sl 1 (List.map c_u8 p0.b) 0, .int .i64 p0.at_]) :: (q1, .cells [.int .i64 p1.Kind, .int .i64 p1.At, .str p1.Name, mslO 2 b1_3 p1.Pairs, .str p1.Text, .int .i64 p1.Refs]) :: mo b1_3 c_T_scan_Pair p1.Pairs :: O)) R := by
 obtain ⟨r0, hr, hF⟩ := F_bind hF
 refine (F_scan_scanner_tag_w (G := fun r => r = r0) p0 p1 q0 q1 b1_3 h O hq0 hq1 zb1_3 ok ⟨r0, hr, rfl⟩).mono ?_
 rintro _ _ ⟨r, rfl, rfl, b1_3', y0, ok', rfl⟩
 exact hk _ _ hr y0 ok' hF
theorem F_refer_ReadText_w (p0 : List UInt8) {G : (List UInt8) × Int × Int → Prop} (h : Heap) (hF : OptP (F_refer_ReadText p0) G) : CallsA Tryd.prog 51 [.sl 1 (List.map c_u8 p0) 0] h fun d h' => ∃ r, G r ∧ d = .tup [.str r.1, .int .i64 r.2.1, .int .i64 r.2.2] ∧ h' = h := by
 refine CallsA.ret ?_
 refine C_body Tryd.func51 rfl en_51 Tryd.ntmps51 rfl (fun ok => ?_)
 rw [F_refer_ReadText] at hF
 refine C_seq ?_
 refine C_reg (mdl []) ?_
 refine S_a (v := .str ([] : List UInt8)) rfl ?_
 refine S_a (v := .int _ _) rfl ?_
 refine S_a (v := .int _ _) rfl ?_
 refine S_nil ?_
 refine C_seq ?_
 refine C_reg (mdl []) ?_
 refine S_m (v := .sl _ _ _) rfl ?_
 refine S_call (F_refer_read_ok _ hF fun x1 _ hF => ?_) (.cons (.refl _) (.cons (.refl _) (.nil)))
 refine S_ext rfl rfl ?_
 refine S_ext rfl rfl ?_
 refine S_ext rfl rfl ?_
 refine S_a (v := .str _) rfl ?_
 refine S_a (v := .int _ _) rfl ?_
 refine S_a (v := .int _ _) rfl ?_
 refine S_nil ?_
 refine WP_ret ?_
 repeat (first | with_reducible refine Exit.sel_ret ?_ | with_reducible refine Exit.blk_ret ?_ | with_reducible refine Exit.jmp_ret ?_)
 refine C_ret (fn := Tryd.f51) rfl (.tmp (v := .str x1.1) rfl (.tmp (v := .int .i64 x1.2.1) rfl (.tmp (v := .int .i64 x1.2.2) rfl .nil))) ?_
 exact ⟨_, _, (.tupC (.cons (.refl _) (.cons (.refl _) (.cons (.refl _) (.nil))))), ok.wh, _, F_some hF, rfl, rfl⟩
theorem F_refer_ReadText_ok {β : Type} {f : (List UInt8) × Int × Int → Option β} {G : β → Prop} {R : D → Heap → Prop} {p0 : List UInt8} (h : Heap) (hF : OptP ((F_refer_ReadText p0).bind f) G) (hk : ∀ r, F_refer_ReadText p0 = some r → OptP (f r) G → R (.tup [.str r.1, .int .i64 r.2.1, .int .i64 r.2.2]) h) : CallsA Tryd.prog 51 [.sl 1 (List.map c_u8 p0) 0] h R := by
 obtain ⟨r0, hr, hF⟩ := F_bind hF
 refine (F_refer_ReadText_w (G := fun r => r = r0) p0 h ⟨r0, hr, rfl⟩).mono ?_
 rintro _ _ ⟨r, rfl, rfl, rfl⟩
 exact hk _ hr hF
theorem F_scan_scanner_text_w (p0 : T_scan_scanner) (p1 : T_scan_Token) (q0 : Nat) (q1 : Nat) (b1_3 : Nat) {G : Int × T_scan_scanner × T_scan_Token → Prop} (h : Heap) (O : List (Nat × AObj)) (hq0 : q0 ≠ 0) (hq1 : q1 ≠ 0) (zb1_3 : b1_3 = 0 → p1.Pairs = []) (ok : OK h ((q0, .cells [.sl 1 (List.map c_u8 p0.b) 0, .int .i64 p0.at_]) :: (q1, .cells [.int .i64 p1.Kind, .int .i64 p1.At, .str p1.Name, mslO 2 b1_3 p1.Pairs, .str p1.Text, .int .i64 p1.Refs]) :: mo b1_3 c_T_scan_Pair p1.Pairs :: O)) (hF : OptP (F_scan_scanner_text p0 p1) G) : CallsA Tryd.prog 36 [.ptr q0 0, .ptr q1 0] (Hp h ((q0, .cells [.sl 1 (List.map c_u8 p0.b) 0, .int .i64 p0.at_]) :: (q1, .cells [.int .i64 p1.Kind, .int .i64 p1.At, .str p1.Name, mslO 2 b1_3 p1.Pairs, .str p1.Text, .int .i64 p1.Refs]) :: mo b1_3 c_T_scan_Pair p1.Pairs :: O)) fun d h' => ∃ r, G r ∧ d = .int .i64 r.1 ∧ ∃ b1_3' : Nat, (b1_3' = 0 → r.2.2.Pairs = []) ∧ OK h ((q0, .cells [.sl 1 (List.map c_u8 r.2.1.b) 0, .int .i64 r.2.1.at_]) :: (q1, .cells [.int .i64 r.2.2.Kind, .int .i64 r.2.2.At, .str r.2.2.Name, mslO 2 b1_3' r.2.2.Pairs, .str r.2.2.Text, .int .i64 r.2.2.Refs]) :: mo b1_3' c_T_scan_Pair r.2.2.Pairs :: O) ∧ h' = Hp h ((q0, .cells [.sl 1 (List.map c_u8 r.2.1.b) 0, .int .i64 r.2.1.at_]) :: (q1, .cells [.int .i64 r.2.2.Kind, .int .i64 r.2.2.At, .str r.2.2.Name, mslO 2 b1_3' r.2.2.Pairs, .str r.2.2.Text, .int .i64 r.2.2.Refs]) :: mo b1_3' c_T_scan_Pair r.2.2.Pairs :: O) := by
 refine CallsA.ret ?_
 refine C_bodyO Tryd.func36 rfl en_36 Tryd.ntmps36 rfl ?_
 rw [F_scan_scanner_text] at hF
 refine C_seq ?_
 refine C_reg (mdl []) ?_
 refine S_a (v := .int _ _) rfl ?_
 refine S_nil ?_
 refine C_seq ?_
 refine C_reg (mdl []) ?_
 refine S_m (v := .ptr _ _) rfl ?_
 refine S_nilc (v := .ptr _ _) rfl rfl ?_
 refine S_faP rfl ty_fd_30_0 ty_sz_3 ?_
 refine S_st (j := 1) (cs' := [.int .i64 (5 : Int), .int .i64 p1.At, .str p1.Name, mslO 2 b1_3 p1.Pairs, .str p1.Text, .int .i64 p1.Refs]) ok rfl rfl rfl hq1 rfl ty_sz_3 rfl rfl (fun ok => ?_)
 refine S_nil ?_
 refine C_seq ?_
 refine C_drw (mdl []) (by kernel_rfl) (by kernel_rfl) ?_
 refine S_m (v := .ptr _ _) rfl ?_
 refine S_nilc (v := .ptr _ _) rfl rfl ?_
 refine S_faP rfl ty_fd_54_0 ty_sz_22 ?_
 refine S_ldP (j := 0) ok rfl rfl rfl hq0 (p_one (v := .sl 1 (List.map c_u8 p0.b) 0) ty_ag_22 ty_sz_22 rfl) ?_
 refine S_m (v := .ptr _ _) rfl ?_
 refine S_nilc (v := .ptr _ _) rfl rfl ?_
 refine S_faP rfl ty_fd_54_1 ty_sz_3 ?_
 refine S_ldP (j := 0) ok rfl rfl rfl hq0 (p_one (v := .int .i64 p0.at_) ty_ag_3 ty_sz_3 rfl) ?_
 refine S_slL rfl ty_sl_22 ty_sz_5 (bd_at rfl) bd_len hF (fun x1 _ hF => ?_)
 refine S_a (v := .sl _ _ _) rfl ?_
 refine S_nil ?_
 refine C_join hF (fun (a5 : (List UInt8)) s' => OK h ((q0, .cells [.sl 1 (List.map c_u8 p0.b) 0, .int .i64 p0.at_]) :: (q1, .cells [.int .i64 (5 : Int), .int .i64 p1.At, .str p1.Name, mslO 2 b1_3 p1.Pairs, .str p1.Text, .int .i64 p1.Refs]) :: mo b1_3 c_T_scan_Pair p1.Pairs :: O) ∧ WS s' ⟨mkSl 56 [(0, .ptr q0 0), (1, .ptr q1 0), (5, .sl 1 (List.map c_u8 a5) 0)], Hp h ((q0, .cells [.sl 1 (List.map c_u8 p0.b) 0, .int .i64 p0.at_]) :: (q1, .cells [.int .i64 (5 : Int), .int .i64 p1.At, .str p1.Name, mslO 2 b1_3 p1.Pairs, .str p1.Text, .int .i64 p1.Refs]) :: mo b1_3 c_T_scan_Pair p1.Pairs :: O)⟩) (fun J6 hF => ?_) ?_
 ·
  refine C_seq ?_
  refine C_reg (mdl []) ?_
  refine S_m (v := .sl _ _ _) rfl ?_
  refine S_call (L_bIndexByte_ok _ hF fun x7 _ hF => ?_) (.cons (.refl _) (.cons (.refl _) (.nil)))
  refine S_a (v := .int _ _) rfl ?_
  refine S_nil ?_
  refine C_seq ?_
  refine C_reg (mdl []) ?_
  refine S_m (v := .int _ _) rfl ?_
  refine S_bin rfl rfl (ev_geq ..) ?_
  refine S_nil ?_
  refine C_if (b := (decide ((0 : Int) ≤ x7))) rfl hF (fun hb8 hF => ?_) (fun hb8 hF => ?_)
  ·
   refine C_reg (mdl []) ?_
   refine S_m (v := .sl _ _ _) rfl ?_
   refine S_m (v := .int _ _) rfl ?_
   refine S_slL rfl ty_sl_22 ty_sz_5 bd_no (bd_at rfl) hF (fun x9 _ hF => ?_)
   refine S_a (v := .sl _ _ _) rfl ?_
   refine S_nil ?_
   have hwo : WO ((q0, .cells [.sl 1 (List.map c_u8 p0.b) 0, .int .i64 p0.at_]) :: (q1, .cells [.int .i64 (5 : Int), .int .i64 p1.At, .str p1.Name, mslO 2 b1_3 p1.Pairs, .str p1.Text, .int .i64 p1.Refs]) :: mo b1_3 c_T_scan_Pair p1.Pairs :: O) ((q0, .cells [.sl 1 (List.map c_u8 p0.b) 0, .int .i64 p0.at_]) :: (q1, .cells [.int .i64 (5 : Int), .int .i64 p1.At, .str p1.Name, mslO 2 b1_3 p1.Pairs, .str p1.Text, .int .i64 p1.Refs]) :: mo b1_3 c_T_scan_Pair p1.Pairs :: O) := (.keep (.keep (.keep (.refl O))))
   exact ⟨x9, hF, (hwo.spec ok).1, WS.mk' (.cons (.refl _) (.cons (.refl _) (.cons (.refl _) .nil))) ok hwo⟩
  ·
   refine WP_skip ?_
   have hwo : WO ((q0, .cells [.sl 1 (List.map c_u8 p0.b) 0, .int .i64 p0.at_]) :: (q1, .cells [.int .i64 (5 : Int), .int .i64 p1.At, .str p1.Name, mslO 2 b1_3 p1.Pairs, .str p1.Text, .int .i64 p1.Refs]) :: mo b1_3 c_T_scan_Pair p1.Pairs :: O) ((q0, .cells [.sl 1 (List.map c_u8 p0.b) 0, .int .i64 p0.at_]) :: (q1, .cells [.int .i64 (5 : Int), .int .i64 p1.At, .str p1.Name, mslO 2 b1_3 p1.Pairs, .str p1.Text, .int .i64 p1.Refs]) :: mo b1_3 c_T_scan_Pair p1.Pairs :: O) := (.keep (.keep (.keep (.refl O))))
   exact ⟨x1, hF, (hwo.spec ok).1, WS.mk' (.cons (.refl _) (.cons (.refl _) (.cons (.refl _) .nil))) ok hwo⟩
 ·
  rintro a5 s' hF ⟨ok, hws⟩
  refine WP_ws hws ?_
  clear hws s'
  refine C_seq ?_
  refine C_reg (mdl []) ?_
  refine S_m (v := .sl _ _ _) rfl ?_
  refine S_call (F_refer_ReadText_ok _ hF fun x10 _ hF => ?_) (.cons (.refl _) (.nil))
  refine S_m (v := .tup _) rfl ?_
  refine S_ext rfl rfl ?_
  refine S_ext rfl rfl ?_
  refine S_ext rfl rfl ?_
  refine S_a (v := .str _) rfl ?_
  refine S_a (v := .int _ _) rfl ?_
  refine S_a (v := .int _ _) rfl ?_
  refine S_nil ?_
  refine C_seq ?_
  refine C_reg (mdl [(39, 5), (40, 5)]) ?_
  refine S_m (v := .ptr _ _) rfl ?_
  refine S_m (v := .ptr _ _) rfl ?_
  refine S_m (v := .str _) rfl ?_
  refine S_m (v := .sl _ _ _) rfl ?_
  refine S_lit5 (cs := [.int .u8 38]) ok rfl ty_el_22 rfl (by kernel_rfl) ?_
  intro i11 hi11 ok
  refine S_cvt (v := .sl 1 (List.map c_u8 ([38] : List UInt8)) 0) (by kernel_rfl) 0 ok rfl rfl hi11 rfl ty_sl_22 ty_ki_5 rfl rfl (fun ok => ?_)
  refine S_call (L_bCount_ok _ hF fun x13 _ hF => ?_) (.cons (.refl _) (.cons (.refl _) (.nil)))
  refine S_nilc (v := .ptr _ _) rfl rfl ?_
  refine S_faP rfl ty_fd_30_4 ty_sz_9 ?_
  refine S_st (j := 2) (cs' := [.int .i64 (5 : Int), .int .i64 p1.At, .str p1.Name, mslO 2 b1_3 p1.Pairs, .str x10.1, .int .i64 p1.Refs]) ok rfl rfl rfl hq1 rfl ty_sz_9 rfl rfl (fun ok => ?_)
  refine S_nilc (v := .ptr _ _) rfl rfl ?_
  refine S_faP rfl ty_fd_30_5 ty_sz_3 ?_
  refine S_st (j := 2) (cs' := [.int .i64 (5 : Int), .int .i64 p1.At, .str p1.Name, mslO 2 b1_3 p1.Pairs, .str x10.1, .int .i64 x13]) ok rfl rfl rfl hq1 rfl ty_sz_3 rfl rfl (fun ok => ?_)
  refine S_nil ?_
  refine C_seq ?_
  refine C_reg (mdl []) ?_
  refine S_m (v := .ptr _ _) rfl ?_
  refine S_nilc (v := .ptr _ _) rfl rfl ?_
  refine S_faP rfl ty_fd_54_1 ty_sz_3 ?_
  refine S_ldP (j := 1) ok rfl rfl rfl hq0 (p_one (v := .int .i64 p0.at_) ty_ag_3 ty_sz_3 rfl) ?_
  refine S_m (v := .sl _ _ _) rfl ?_
  refine S_lenL rfl ty_sl_22 ?_
  refine S_bin rfl rfl (ev_add ..) ?_
  refine S_nilc (v := .ptr _ _) rfl rfl ?_
  refine S_faP rfl ty_fd_54_1 ty_sz_3 ?_
  refine S_st (j := 1) (cs' := [.sl 1 (List.map c_u8 p0.b) 0, .int .i64 (IntKind.wrap .i64 (p0.at_ + (a5.length : Int)))]) ok rfl rfl rfl hq0 rfl ty_sz_3 rfl rfl (fun ok => ?_)
  refine S_nil ?_
  refine C_seq ?_
  refine C_reg (mdl []) ?_
  refine S_m (v := .int _ _) rfl ?_
  refine S_a (v := .int _ _) rfl ?_
  refine S_nil ?_
  refine WP_ret ?_
  repeat (first | with_reducible refine Exit.sel_ret ?_ | with_reducible refine Exit.blk_ret ?_ | with_reducible refine Exit.jmp_ret ?_)
  have hwo : WO ((0, .room) :: (q0, .cells [.sl 1 (List.map c_u8 p0.b) 0, .int .i64 (IntKind.wrap .i64 (p0.at_ + (a5.length : Int)))]) :: (q1, .cells [.int .i64 (5 : Int), .int .i64 p1.At, .str p1.Name, mslO 2 b1_3 p1.Pairs, .str x10.1, .int .i64 x13]) :: mo b1_3 c_T_scan_Pair p1.Pairs :: O) ((q0, .cells [.sl 1 (List.map c_u8 p0.b) 0, .int .i64 (IntKind.wrap .i64 (p0.at_ + (a5.length : Int)))]) :: (q1, .cells [.int .i64 (5 : Int), .int .i64 p1.At, .str p1.Name, mslO 2 b1_3 p1.Pairs, .str x10.1, .int .i64 x13]) :: mo b1_3 c_T_scan_Pair p1.Pairs :: O) := (.drop (.keep (.keep (.keep (.refl O)))))
  refine C_ret (fn := Tryd.f36) rfl (.tmp (v := .int .i64 x10.2.2) rfl .nil) ?_
  exact ⟨_, _, (.refl _), (hwo.spec ok).2.2, _, F_some hF, rfl, b1_3, zb1_3, (hwo.spec ok).1, rfl⟩
theorem F_scan_scanner_text_ok {β : Type} {f0 : Int × T_scan_scanner × T_scan_Token → Option β} {G : β → Prop} {R : D → Heap → Prop} {p0 : T_scan_scanner} {p1 : T_scan_Token} {q0 : Nat} {q1 : Nat} {b1_3 : Nat} (h : Heap) (O : List (Nat × AObj)) (hq0 : q0 ≠ 0) (hq1 : q1 ≠ 0) (zb1_3 : b1_3 = 0 → p1.Pairs = []) (ok : OK h ((q0, .cells [.sl 1 (List.map c_u8 p0.b) 0, .int .i64 p0.at_]) :: (q1, .cells [.int .i64 p1.Kind, .int .i64 p1.At, .str p1.Name, mslO 2 b1_3 p1.Pairs, .str p1.Text, .int .i64 p1.Refs]) :: mo b1_3 c_T_scan_Pair p1.Pairs :: O)) (hF : OptP ((F_scan_scanner_text p0 p1).bind f0) G) (hk : ∀ r b1_3', F_scan_scanner_text p0 p1 = some r → (b1_3' = 0 → r.2.2.Pairs = []) → OK h ((q0, .cells [.sl 1 (List.map c_u8 r.2.1.b) 0, .int .i64 r.2.1.at_]) :: (q1, .cells [.int .i64 r.2.2.Kind, .int .i64 r.2.2.At, .str r.2.2.Name, mslO 2 b1_3' r.2.2.Pairs, .str r.2.2.Text, .int .i64 r.2.2.Refs]) :: mo b1_3' c_T_scan_Pair r.2.2.Pairs :: O) → OptP (f0 r) G → R (.int .i64 r.1) (Hp h ((q0, .cells [.sl 1 (List.map c_u8 r.2.1.b) 0, .int .i64 r.2.1.at_]) :: (q1, .cells [.int .i64 r.2.2.Kind, .int .i64 r.2.2.At, .str r.2.2.Name, mslO 2 b1_3' r.2.2.Pairs, .str r.2.2.Text, .int .i64 r.2.2.Refs]) :: mo b1_3' c_T_scan_Pair r.2.2.Pairs :: O))) : CallsA Tryd.prog 36 [.ptr q0 0, .ptr q1 0] (Hp h ((q0, .cells [.sl 1 (List.map c_u8 p0.b) 0, .int .i64 p0.at_]) :: (q1, .cells [.int .i64 p1.Kind, .int .i64 p1.At, .str p1.Name, mslO 2 b1_3 p1.Pairs, .str p1.Text, .int .i64 p1.Refs]) :: mo b1_3 c_T_scan_Pair p1.Pairs :: O)) R := by
 obtain ⟨r0, hr, hF⟩ := F_bind hF
 refine (F_scan_scanner_text_w (G := fun r => r = r0) p0 p1 q0 q1 b1_3 h O hq0 hq1 zb1_3 ok ⟨r0, hr, rfl⟩).mono ?_
 rintro _ _ ⟨r, rfl, rfl, b1_3', y0, ok', rfl⟩
 exact hk _ _ hr y0 ok' hF
theorem F_scan_scanner_token_w (p0 : T_scan_scanner) (p1 : T_scan_Token) (q0 : Nat) (q1 : Nat) (b1_3 : Nat) {G : Int × T_scan_scanner × T_scan_Token → Prop} (h : Heap) (O : List (Nat × AObj)) (hq0 : q0 ≠ 0) (hq1 : q1 ≠ 0) (zb1_3 : b1_3 = 0 → p1.Pairs = []) (ok : OK h ((q0, .cells [.sl 1 (List.map c_u8 p0.b) 0, .int .i64 p0.at_]) :: (q1, .cells [.int .i64 p1.Kind, .int .i64 p1.At, .str p1.Name, mslO 2 b1_3 p1.Pairs, .str p1.Text, .int .i64 p1.Refs]) :: mo b1_3 c_T_scan_Pair p1.Pairs :: O)) (hF : OptP (F_scan_scanner_token p0 p1) G) : CallsA Tryd.prog 18 [.ptr q0 0, .ptr q1 0] (Hp h ((q0, .cells [.sl 1 (List.map c_u8 p0.b) 0, .int .i64 p0.at_]) :: (q1, .cells [.int .i64 p1.Kind, .int .i64 p1.At, .str p1.Name, mslO 2 b1_3 p1.Pairs, .str p1.Text, .int .i64 p1.Refs]) :: mo b1_3 c_T_scan_Pair p1.Pairs :: O)) fun d h' => ∃ r, G r ∧ d = .int .i64 r.1 ∧ ∃ b1_3' : Nat, (b1_3' = 0 → r.2.2.Pairs = []) ∧ OK h ((q0, .cells [.sl 1 (List.map c_u8 r.2.1.b) 0, .int .i64 r.2.1.at_]) :: (q1, .cells [.int .i64 r.2.2.Kind, .int .i64 r.2.2.At, .str r.2.2.Name, mslO 2 b1_3' r.2.2.Pairs, .str r.2.2.Text, .int .i64 r.2.2.Refs]) :: mo b1_3' c_T_scan_Pair r.2.2.Pairs :: O) ∧ h' = Hp h ((q0, .cells [.sl 1 (List.map c_u8 r.2.1.b) 0, .int .i64 r.2.1.at_]) :: (q1, .cells [.int .i64 r.2.2.Kind, .int .i64 r.2.2.At, .str r.2.2.Name, mslO 2 b1_3' r.2.2.Pairs, .str r.2.2.Text, .int .i64 r.2.2.Refs]) :: mo b1_3' c_T_scan_Pair r.2.2.Pairs :: O) := by
 refine CallsA.ret ?_
 refine C_bodyO Tryd.func18 rfl en_18 Tryd.ntmps18 rfl ?_
 rw [F_scan_scanner_token] at hF
 refine C_seq ?_
 refine C_reg (mdl []) ?_
 refine S_a (v := .int _ _) rfl ?_
 refine S_nil ?_
 refine C_seq ?_
 refine WP_block ?_
 refine C_seq ?_
 refine C_reg (mdl []) ?_
 refine S_m (v := .ptr _ _) rfl ?_
 refine S_nilc (v := .ptr _ _) rfl rfl ?_
 refine S_faP rfl ty_fd_54_1 ty_sz_3 ?_
 refine S_ldP (j := 0) ok rfl rfl rfl hq0 (p_one (v := .int .i64 p0.at_) ty_ag_3 ty_sz_3 rfl) ?_
 refine S_bin rfl rfl (ev_eql ..) ?_
 refine S_m (v := .bool _) rfl ?_
 refine S_twoJ 3 15 hF (fun J2 hb1 hF => ?_) (fun J2 hb1 hF => ?_) (fun v3 hF => ?_)
 ·
  refine S_on rfl rfl hb1 ?_
  refine S_in ?_
  refine S_m (v := .ptr _ _) rfl ?_
  refine S_nil ?_
  refine S_on rfl rfl hb1 ?_
  refine S_in ?_
  refine S_call (F_scan_scanner_here_ok (p0 := p0) (q0 := q0) h ((q1, .cells [.int .i64 p1.Kind, .int .i64 p1.At, .str p1.Name, mslO 2 b1_3 p1.Pairs, .str p1.Text, .int .i64 p1.Refs]) :: mo b1_3 c_T_scan_Pair p1.Pairs :: O) hq0 ok hF fun x4 _  ok hF => ?_) (.cons (.refl _) (.cons (.refl _) (.nil)))
  refine S_nil ?_
  refine S_pickT (v := .bool _) rfl hb1 rfl ?_
  refine S_nil ?_
  refine ⟨_, hF, .hd (.refl _) ?_⟩
  repeat (first | with_reducible exact WS.refl _ | refine WS.add ?_ rfl | exact WS.refl _)
 ·
  refine S_off rfl rfl hb1 ?_
  refine S_offD ?_
  refine S_off rfl rfl hb1 ?_
  refine S_offD ?_
  refine S_pickF (v := .bool _) rfl hb1 rfl ?_
  refine S_nil ?_
  refine ⟨_, hF, .hd (.refl _) ?_⟩
  repeat (first | with_reducible exact WS.refl _ | refine WS.add ?_ rfl | exact WS.refl _)
 ·
  refine S_m (v := .bool _) rfl ?_
  refine S_twoJ 4 20 hF (fun J6 hb5 hF => ?_) (fun J6 hb5 hF => ?_) (fun v7 hF => ?_)
  ·
   refine S_on rfl rfl hb5 ?_
   refine S_in ?_
   refine S_m (v := .ptr _ _) rfl ?_
   refine S_nil ?_
   refine S_on rfl rfl hb5 ?_
   refine S_in ?_
   refine S_call (F_scan_scanner_spaces_ok (p0 := p0) (q0 := q0) h ((q1, .cells [.int .i64 p1.Kind, .int .i64 p1.At, .str p1.Name, mslO 2 b1_3 p1.Pairs, .str p1.Text, .int .i64 p1.Refs]) :: mo b1_3 c_T_scan_Pair p1.Pairs :: O) hq0 ok hF fun x8 _  ok hF => ?_) (.cons (.refl _) (.cons (.refl _) (.nil)))
   refine S_nil ?_
   refine S_on rfl rfl hb5 ?_
   refine S_in ?_
   refine S_bin rfl rfl (ev_gtr ..) ?_
   refine S_nil ?_
   refine S_pickT (v := .bool _) rfl hb5 rfl ?_
   refine S_nil ?_
   refine ⟨_, hF, .hd (.refl _) ?_⟩
   repeat (first | with_reducible exact WS.refl _ | refine WS.add ?_ rfl | exact WS.refl _)
  ·
   refine S_off rfl rfl hb5 ?_
   refine S_offD ?_
   refine S_off rfl rfl hb5 ?_
   refine S_offD ?_
   refine S_off rfl rfl hb5 ?_
   refine S_offD ?_
   refine S_pickF (v := .bool _) rfl hb5 rfl ?_
   refine S_nil ?_
   refine ⟨_, hF, .hd (.refl _) ?_⟩
   repeat (first | with_reducible exact WS.refl _ | refine WS.add ?_ rfl | exact WS.refl _)
  ·
   refine S_a (v := .bool _) rfl ?_
   refine S_nil ?_
   refine C_if (b := v7) rfl hF (fun hb9 hF => ?_) (fun hb9 hF => ?_)
   ·
    refine C_seq ?_
    refine C_reg (mdl []) ?_
    refine S_m (v := .ptr _ _) rfl ?_
    refine S_m (v := .ptr _ _) rfl ?_
    obtain ⟨hpe, ok⟩ := Hp_pull 2 ok rfl
    rw [hpe]; clear hpe
    obtain ⟨hpe, ok⟩ := Hp_pull 2 ok rfl
    rw [hpe]; clear hpe
    obtain ⟨hpe, ok⟩ := Hp_pull 2 ok rfl
    rw [hpe]; clear hpe
    refine S_call (F_scan_scanner_decl_ok (p0 := p0) (p1 := p1) (q0 := q0) (q1 := q1) (b1_3 := b1_3) h (O) hq0 hq1 zb1_3 ok hF fun x10 u11 _ zu11 ok hF => ?_) (.cons (.refl _) (.cons (.refl _) (.nil)))
    refine S_a (v := .int _ _) rfl ?_
    refine S_nil ?_
    refine WP_ret ?_
    repeat (first | with_reducible refine Exit.sel_ret ?_ | with_reducible refine Exit.blk_ret ?_ | with_reducible refine Exit.jmp_ret ?_)
    have hwo : WO ((q0, .cells [.sl 1 (List.map c_u8 x10.2.1.b) 0, .int .i64 x10.2.1.at_]) :: (q1, .cells [.int .i64 x10.2.2.Kind, .int .i64 x10.2.2.At, .str x10.2.2.Name, mslO 2 u11 x10.2.2.Pairs, .str x10.2.2.Text, .int .i64 x10.2.2.Refs]) :: mo u11 c_T_scan_Pair x10.2.2.Pairs :: O) ((q0, .cells [.sl 1 (List.map c_u8 x10.2.1.b) 0, .int .i64 x10.2.1.at_]) :: (q1, .cells [.int .i64 x10.2.2.Kind, .int .i64 x10.2.2.At, .str x10.2.2.Name, mslO 2 u11 x10.2.2.Pairs, .str x10.2.2.Text, .int .i64 x10.2.2.Refs]) :: mo u11 c_T_scan_Pair x10.2.2.Pairs :: O) := (.keep (.keep (.keep (.refl O))))
    refine C_ret (fn := Tryd.f18) rfl (.tmp (v := .int .i64 x10.1) rfl .nil) ?_
    exact ⟨_, _, (.refl _), (hwo.spec ok).2.2, _, F_some hF, rfl, u11, zu11, (hwo.spec ok).1, rfl⟩
   ·
    refine C_seq ?_
    refine C_reg (mdl []) ?_
    refine S_m (v := .ptr _ _) rfl ?_
    refine S_call (F_scan_scanner_here_ok (p0 := p0) (q0 := q0) h ((q1, .cells [.int .i64 p1.Kind, .int .i64 p1.At, .str p1.Name, mslO 2 b1_3 p1.Pairs, .str p1.Text, .int .i64 p1.Refs]) :: mo b1_3 c_T_scan_Pair p1.Pairs :: O) hq0 ok hF fun x12 _  ok hF => ?_) (.cons (.refl _) (.cons (.refl _) (.nil)))
    refine S_a (v := .bool _) rfl ?_
    refine S_nil ?_
    refine C_if (b := x12) rfl hF (fun hb13 hF => ?_) (fun hb13 hF => ?_)
    ·
     refine C_seq ?_
     refine C_reg (mdl []) ?_
     refine S_m (v := .ptr _ _) rfl ?_
     refine S_nilc (v := .ptr _ _) rfl rfl ?_
     refine S_faP rfl ty_fd_30_0 ty_sz_3 ?_
     refine S_st (j := 1) (cs' := [.int .i64 (7 : Int), .int .i64 p1.At, .str p1.Name, mslO 2 b1_3 p1.Pairs, .str p1.Text, .int .i64 p1.Refs]) ok rfl rfl rfl hq1 rfl ty_sz_3 rfl rfl (fun ok => ?_)
     refine S_nil ?_
     refine C_seq ?_
     refine C_seq ?_
     refine C_reg (mdl []) ?_
     refine S_m (v := .ptr _ _) rfl ?_
     refine S_m (v := .ptr _ _) rfl ?_
     obtain ⟨hpe, ok⟩ := Hp_pull 2 ok rfl
     rw [hpe]; clear hpe
     obtain ⟨hpe, ok⟩ := Hp_pull 2 ok rfl
     rw [hpe]; clear hpe
     obtain ⟨hpe, ok⟩ := Hp_pull 2 ok rfl
     rw [hpe]; clear hpe
     refine S_call (F_scan_scanner_upTo_ok (p0 := p0) (p1 := (⟨(7 : Int), p1.At, p1.Name, p1.Pairs, p1.Text, p1.Refs⟩ : T_scan_Token)) (q0 := q0) (q1 := q1) (b1_3 := b1_3) h (O) hq0 hq1 zb1_3 ok hF fun x14 u15 _ zu15 ok hF => ?_) (.cons (.refl _) (.cons (.refl _) (.cons (.refl _) (.cons (.refl _) (.nil)))))
     refine S_a (v := .int _ _) rfl ?_
     refine S_nil ?_
     refine C_seq ?_
     refine C_reg (mdl []) ?_
     refine S_m (v := .int _ _) rfl ?_
     refine S_bin rfl rfl (ev_neq ..) ?_
     refine S_nil ?_
     refine C_if (b := (x14.1 != (0 : Int))) rfl hF (fun hb16 hF => ?_) (fun hb16 hF => ?_)
     ·
      refine C_seq ?_
      refine C_reg (mdl []) ?_
      refine S_m (v := .int _ _) rfl ?_
      refine S_a (v := .int _ _) rfl ?_
      refine S_nil ?_
      refine WP_ret ?_
      repeat (first | with_reducible refine Exit.sel_ret ?_ | with_reducible refine Exit.blk_ret ?_ | with_reducible refine Exit.jmp_ret ?_)
      have hwo : WO ((q0, .cells [.sl 1 (List.map c_u8 x14.2.1.b) 0, .int .i64 x14.2.1.at_]) :: (q1, .cells [.int .i64 x14.2.2.Kind, .int .i64 x14.2.2.At, .str x14.2.2.Name, mslO 2 u15 x14.2.2.Pairs, .str x14.2.2.Text, .int .i64 x14.2.2.Refs]) :: mo u15 c_T_scan_Pair x14.2.2.Pairs :: O) ((q0, .cells [.sl 1 (List.map c_u8 x14.2.1.b) 0, .int .i64 x14.2.1.at_]) :: (q1, .cells [.int .i64 x14.2.2.Kind, .int .i64 x14.2.2.At, .str x14.2.2.Name, mslO 2 u15 x14.2.2.Pairs, .str x14.2.2.Text, .int .i64 x14.2.2.Refs]) :: mo u15 c_T_scan_Pair x14.2.2.Pairs :: O) := (.keep (.keep (.keep (.refl O))))
      refine C_ret (fn := Tryd.f18) rfl (.tmp (v := .int .i64 x14.1) rfl .nil) ?_
      exact ⟨_, _, (.refl _), (hwo.spec ok).2.2, _, F_some hF, rfl, u15, zu15, (hwo.spec ok).1, rfl⟩
     ·
      refine WP_skip ?_
      refine C_seq ?_
      refine C_reg (mdl []) ?_
      refine S_m (v := .ptr _ _) rfl ?_
      refine S_call (F_scan_scanner_sign_ok (p0 := x14.2.1) (q0 := q0) h ((q1, .cells [.int .i64 x14.2.2.Kind, .int .i64 x14.2.2.At, .str x14.2.2.Name, mslO 2 u15 x14.2.2.Pairs, .str x14.2.2.Text, .int .i64 x14.2.2.Refs]) :: mo u15 c_T_scan_Pair x14.2.2.Pairs :: O) hq0 ok hF fun x17 _  ok hF => ?_) (.cons (.refl _) (.cons (.refl _) (.nil)))
      refine S_a (v := .int _ _) rfl ?_
      refine S_nil ?_
      refine WP_ret ?_
      repeat (first | with_reducible refine Exit.sel_ret ?_ | with_reducible refine Exit.blk_ret ?_ | with_reducible refine Exit.jmp_ret ?_)
      have hwo : WO ((q0, .cells [.sl 1 (List.map c_u8 x17.2.b) 0, .int .i64 x17.2.at_]) :: (q1, .cells [.int .i64 x14.2.2.Kind, .int .i64 x14.2.2.At, .str x14.2.2.Name, mslO 2 u15 x14.2.2.Pairs, .str x14.2.2.Text, .int .i64 x14.2.2.Refs]) :: mo u15 c_T_scan_Pair x14.2.2.Pairs :: O) ((q0, .cells [.sl 1 (List.map c_u8 x17.2.b) 0, .int .i64 x17.2.at_]) :: (q1, .cells [.int .i64 x14.2.2.Kind, .int .i64 x14.2.2.At, .str x14.2.2.Name, mslO 2 u15 x14.2.2.Pairs, .str x14.2.2.Text, .int .i64 x14.2.2.Refs]) :: mo u15 c_T_scan_Pair x14.2.2.Pairs :: O) := (.keep (.keep (.keep (.refl O))))
      refine C_ret (fn := Tryd.f18) rfl (.tmp (v := .int .i64 x17.1) rfl .nil) ?_
      exact ⟨_, _, (.refl _), (hwo.spec ok).2.2, _, F_some hF, rfl, u15, zu15, (hwo.spec ok).1, rfl⟩
    ·
     refine C_seq ?_
     refine C_reg (mdl []) ?_
     refine S_m (v := .ptr _ _) rfl ?_
     refine S_call (F_scan_scanner_here_ok (p0 := p0) (q0 := q0) h ((q1, .cells [.int .i64 p1.Kind, .int .i64 p1.At, .str p1.Name, mslO 2 b1_3 p1.Pairs, .str p1.Text, .int .i64 p1.Refs]) :: mo b1_3 c_T_scan_Pair p1.Pairs :: O) hq0 ok hF fun x18 _  ok hF => ?_) (.cons (.refl _) (.cons (.refl _) (.nil)))
     refine S_a (v := .bool _) rfl ?_
     refine S_nil ?_
     refine C_if (b := x18) rfl hF (fun hb19 hF => ?_) (fun hb19 hF => ?_)
     ·
      refine C_seq ?_
      refine C_reg (mdl []) ?_
      refine S_m (v := .ptr _ _) rfl ?_
      refine S_nilc (v := .ptr _ _) rfl rfl ?_
      refine S_faP rfl ty_fd_30_0 ty_sz_3 ?_
      refine S_st (j := 1) (cs' := [.int .i64 (6 : Int), .int .i64 p1.At, .str p1.Name, mslO 2 b1_3 p1.Pairs, .str p1.Text, .int .i64 p1.Refs]) ok rfl rfl rfl hq1 rfl ty_sz_3 rfl rfl (fun ok => ?_)
      refine S_nil ?_
      refine C_seq ?_
      refine C_reg (mdl []) ?_
      refine S_m (v := .ptr _ _) rfl ?_
      refine S_m (v := .ptr _ _) rfl ?_
      obtain ⟨hpe, ok⟩ := Hp_pull 2 ok rfl
      rw [hpe]; clear hpe
      obtain ⟨hpe, ok⟩ := Hp_pull 2 ok rfl
      rw [hpe]; clear hpe
      obtain ⟨hpe, ok⟩ := Hp_pull 2 ok rfl
      rw [hpe]; clear hpe
      refine S_call (F_scan_scanner_upTo_ok (p0 := p0) (p1 := (⟨(6 : Int), p1.At, p1.Name, p1.Pairs, p1.Text, p1.Refs⟩ : T_scan_Token)) (q0 := q0) (q1 := q1) (b1_3 := b1_3) h (O) hq0 hq1 zb1_3 ok hF fun x20 u21 _ zu21 ok hF => ?_) (.cons (.refl _) (.cons (.refl _) (.cons (.refl _) (.cons (.refl _) (.nil)))))
      refine S_a (v := .int _ _) rfl ?_
      refine S_nil ?_
      refine WP_ret ?_
      repeat (first | with_reducible refine Exit.sel_ret ?_ | with_reducible refine Exit.blk_ret ?_ | with_reducible refine Exit.jmp_ret ?_)
      have hwo : WO ((q0, .cells [.sl 1 (List.map c_u8 x20.2.1.b) 0, .int .i64 x20.2.1.at_]) :: (q1, .cells [.int .i64 x20.2.2.Kind, .int .i64 x20.2.2.At, .str x20.2.2.Name, mslO 2 u21 x20.2.2.Pairs, .str x20.2.2.Text, .int .i64 x20.2.2.Refs]) :: mo u21 c_T_scan_Pair x20.2.2.Pairs :: O) ((q0, .cells [.sl 1 (List.map c_u8 x20.2.1.b) 0, .int .i64 x20.2.1.at_]) :: (q1, .cells [.int .i64 x20.2.2.Kind, .int .i64 x20.2.2.At, .str x20.2.2.Name, mslO 2 u21 x20.2.2.Pairs, .str x20.2.2.Text, .int .i64 x20.2.2.Refs]) :: mo u21 c_T_scan_Pair x20.2.2.Pairs :: O) := (.keep (.keep (.keep (.refl O))))
      refine C_ret (fn := Tryd.f18) rfl (.tmp (v := .int .i64 x20.1) rfl .nil) ?_
      exact ⟨_, _, (.refl _), (hwo.spec ok).2.2, _, F_some hF, rfl, u21, zu21, (hwo.spec ok).1, rfl⟩
     ·
      refine C_seq ?_
      refine C_reg (mdl []) ?_
      refine S_m (v := .ptr _ _) rfl ?_
      refine S_call (F_scan_scanner_here_ok (p0 := p0) (q0 := q0) h ((q1, .cells [.int .i64 p1.Kind, .int .i64 p1.At, .str p1.Name, mslO 2 b1_3 p1.Pairs, .str p1.Text, .int .i64 p1.Refs]) :: mo b1_3 c_T_scan_Pair p1.Pairs :: O) hq0 ok hF fun x22 _  ok hF => ?_) (.cons (.refl _) (.cons (.refl _) (.nil)))
      refine S_a (v := .bool _) rfl ?_
      refine S_nil ?_
      refine C_if (b := x22) rfl hF (fun hb23 hF => ?_) (fun hb23 hF => ?_)
      ·
       refine C_seq ?_
       refine C_reg (mdl []) ?_
       refine S_a (v := .int _ _) rfl ?_
       refine S_nil ?_
       refine WP_ret ?_
       repeat (first | with_reducible refine Exit.sel_ret ?_ | with_reducible refine Exit.blk_ret ?_ | with_reducible refine Exit.jmp_ret ?_)
       have hwo : WO ((q0, .cells [.sl 1 (List.map c_u8 p0.b) 0, .int .i64 p0.at_]) :: (q1, .cells [.int .i64 p1.Kind, .int .i64 p1.At, .str p1.Name, mslO 2 b1_3 p1.Pairs, .str p1.Text, .int .i64 p1.Refs]) :: mo b1_3 c_T_scan_Pair p1.Pairs :: O) ((q0, .cells [.sl 1 (List.map c_u8 p0.b) 0, .int .i64 p0.at_]) :: (q1, .cells [.int .i64 p1.Kind, .int .i64 p1.At, .str p1.Name, mslO 2 b1_3 p1.Pairs, .str p1.Text, .int .i64 p1.Refs]) :: mo b1_3 c_T_scan_Pair p1.Pairs :: O) := (.keep (.keep (.keep (.refl O))))
       refine C_ret (fn := Tryd.f18) rfl (.tmp (v := .int .i64 (25 : Int)) rfl .nil) ?_
       exact ⟨_, _, (.refl _), (hwo.spec ok).2.2, _, F_some hF, rfl, b1_3, zb1_3, (hwo.spec ok).1, rfl⟩
      ·
       refine C_seq ?_
       refine C_reg (mdl []) ?_
       refine S_m (v := .ptr _ _) rfl ?_
       refine S_call (F_scan_scanner_here_ok (p0 := p0) (q0 := q0) h ((q1, .cells [.int .i64 p1.Kind, .int .i64 p1.At, .str p1.Name, mslO 2 b1_3 p1.Pairs, .str p1.Text, .int .i64 p1.Refs]) :: mo b1_3 c_T_scan_Pair p1.Pairs :: O) hq0 ok hF fun x24 _  ok hF => ?_) (.cons (.refl _) (.cons (.refl _) (.nil)))
       refine S_a (v := .bool _) rfl ?_
       refine S_nil ?_
       refine C_if (b := x24) rfl hF (fun hb25 hF => ?_) (fun hb25 hF => ?_)
       ·
        refine C_seq ?_
        refine C_reg (mdl []) ?_
        refine S_a (v := .int _ _) rfl ?_
        refine S_nil ?_
        refine WP_ret ?_
        repeat (first | with_reducible refine Exit.sel_ret ?_ | with_reducible refine Exit.blk_ret ?_ | with_reducible refine Exit.jmp_ret ?_)
        have hwo : WO ((q0, .cells [.sl 1 (List.map c_u8 p0.b) 0, .int .i64 p0.at_]) :: (q1, .cells [.int .i64 p1.Kind, .int .i64 p1.At, .str p1.Name, mslO 2 b1_3 p1.Pairs, .str p1.Text, .int .i64 p1.Refs]) :: mo b1_3 c_T_scan_Pair p1.Pairs :: O) ((q0, .cells [.sl 1 (List.map c_u8 p0.b) 0, .int .i64 p0.at_]) :: (q1, .cells [.int .i64 p1.Kind, .int .i64 p1.At, .str p1.Name, mslO 2 b1_3 p1.Pairs, .str p1.Text, .int .i64 p1.Refs]) :: mo b1_3 c_T_scan_Pair p1.Pairs :: O) := (.keep (.keep (.keep (.refl O))))
        refine C_ret (fn := Tryd.f18) rfl (.tmp (v := .int .i64 (23 : Int)) rfl .nil) ?_
        exact ⟨_, _, (.refl _), (hwo.spec ok).2.2, _, F_some hF, rfl, b1_3, zb1_3, (hwo.spec ok).1, rfl⟩
       ·
        refine C_seq ?_
        refine C_reg (mdl []) ?_
        refine S_m (v := .ptr _ _) rfl ?_
        refine S_call (F_scan_scanner_here_ok (p0 := p0) (q0 := q0) h ((q1, .cells [.int .i64 p1.Kind, .int .i64 p1.At, .str p1.Name, mslO 2 b1_3 p1.Pairs, .str p1.Text, .int .i64 p1.Refs]) :: mo b1_3 c_T_scan_Pair p1.Pairs :: O) hq0 ok hF fun x26 _  ok hF => ?_) (.cons (.refl _) (.cons (.refl _) (.nil)))
        refine S_a (v := .bool _) rfl ?_
        refine S_nil ?_
        refine C_if (b := x26) rfl hF (fun hb27 hF => ?_) (fun hb27 hF => ?_)
        ·
         refine C_seq ?_
         refine C_reg (mdl []) ?_
         refine S_m (v := .ptr _ _) rfl ?_
         refine S_m (v := .ptr _ _) rfl ?_
         obtain ⟨hpe, ok⟩ := Hp_pull 2 ok rfl
         rw [hpe]; clear hpe
         obtain ⟨hpe, ok⟩ := Hp_pull 2 ok rfl
         rw [hpe]; clear hpe
         obtain ⟨hpe, ok⟩ := Hp_pull 2 ok rfl
         rw [hpe]; clear hpe
         refine S_call (F_scan_scanner_instr_ok (p0 := p0) (p1 := p1) (q0 := q0) (q1 := q1) (b1_3 := b1_3) h (O) hq0 hq1 zb1_3 ok hF fun x28 u29 _ zu29 ok hF => ?_) (.cons (.refl _) (.cons (.refl _) (.nil)))
         refine S_a (v := .int _ _) rfl ?_
         refine S_nil ?_
         refine WP_ret ?_
         repeat (first | with_reducible refine Exit.sel_ret ?_ | with_reducible refine Exit.blk_ret ?_ | with_reducible refine Exit.jmp_ret ?_)
         have hwo : WO ((q0, .cells [.sl 1 (List.map c_u8 x28.2.1.b) 0, .int .i64 x28.2.1.at_]) :: (q1, .cells [.int .i64 x28.2.2.Kind, .int .i64 x28.2.2.At, .str x28.2.2.Name, mslO 2 u29 x28.2.2.Pairs, .str x28.2.2.Text, .int .i64 x28.2.2.Refs]) :: mo u29 c_T_scan_Pair x28.2.2.Pairs :: O) ((q0, .cells [.sl 1 (List.map c_u8 x28.2.1.b) 0, .int .i64 x28.2.1.at_]) :: (q1, .cells [.int .i64 x28.2.2.Kind, .int .i64 x28.2.2.At, .str x28.2.2.Name, mslO 2 u29 x28.2.2.Pairs, .str x28.2.2.Text, .int .i64 x28.2.2.Refs]) :: mo u29 c_T_scan_Pair x28.2.2.Pairs :: O) := (.keep (.keep (.keep (.refl O))))
         refine C_ret (fn := Tryd.f18) rfl (.tmp (v := .int .i64 x28.1) rfl .nil) ?_
         exact ⟨_, _, (.refl _), (hwo.spec ok).2.2, _, F_some hF, rfl, u29, zu29, (hwo.spec ok).1, rfl⟩
        ·
         refine C_seq ?_
         refine C_reg (mdl []) ?_
         refine S_m (v := .ptr _ _) rfl ?_
         refine S_call (F_scan_scanner_here_ok (p0 := p0) (q0 := q0) h ((q1, .cells [.int .i64 p1.Kind, .int .i64 p1.At, .str p1.Name, mslO 2 b1_3 p1.Pairs, .str p1.Text, .int .i64 p1.Refs]) :: mo b1_3 c_T_scan_Pair p1.Pairs :: O) hq0 ok hF fun x30 _  ok hF => ?_) (.cons (.refl _) (.cons (.refl _) (.nil)))
         refine S_a (v := .bool _) rfl ?_
         refine S_nil ?_
         refine C_if (b := x30) rfl hF (fun hb31 hF => ?_) (fun hb31 hF => ?_)
         ·
          refine C_seq ?_
          refine C_reg (mdl []) ?_
          refine S_m (v := .ptr _ _) rfl ?_
          refine S_m (v := .ptr _ _) rfl ?_
          obtain ⟨hpe, ok⟩ := Hp_pull 2 ok rfl
          rw [hpe]; clear hpe
          obtain ⟨hpe, ok⟩ := Hp_pull 2 ok rfl
          rw [hpe]; clear hpe
          obtain ⟨hpe, ok⟩ := Hp_pull 2 ok rfl
          rw [hpe]; clear hpe
          refine S_call (F_scan_scanner_closing_ok (p0 := p0) (p1 := p1) (q0 := q0) (q1 := q1) (b1_3 := b1_3) h (O) hq0 hq1 zb1_3 ok hF fun x32 u33 _ zu33 ok hF => ?_) (.cons (.refl _) (.cons (.refl _) (.nil)))
          refine S_a (v := .int _ _) rfl ?_
          refine S_nil ?_
          refine WP_ret ?_
          repeat (first | with_reducible refine Exit.sel_ret ?_ | with_reducible refine Exit.blk_ret ?_ | with_reducible refine Exit.jmp_ret ?_)
          have hwo : WO ((q0, .cells [.sl 1 (List.map c_u8 x32.2.1.b) 0, .int .i64 x32.2.1.at_]) :: (q1, .cells [.int .i64 x32.2.2.Kind, .int .i64 x32.2.2.At, .str x32.2.2.Name, mslO 2 u33 x32.2.2.Pairs, .str x32.2.2.Text, .int .i64 x32.2.2.Refs]) :: mo u33 c_T_scan_Pair x32.2.2.Pairs :: O) ((q0, .cells [.sl 1 (List.map c_u8 x32.2.1.b) 0, .int .i64 x32.2.1.at_]) :: (q1, .cells [.int .i64 x32.2.2.Kind, .int .i64 x32.2.2.At, .str x32.2.2.Name, mslO 2 u33 x32.2.2.Pairs, .str x32.2.2.Text, .int .i64 x32.2.2.Refs]) :: mo u33 c_T_scan_Pair x32.2.2.Pairs :: O) := (.keep (.keep (.keep (.refl O))))
          refine C_ret (fn := Tryd.f18) rfl (.tmp (v := .int .i64 x32.1) rfl .nil) ?_
          exact ⟨_, _, (.refl _), (hwo.spec ok).2.2, _, F_some hF, rfl, u33, zu33, (hwo.spec ok).1, rfl⟩
         ·
          refine C_seq ?_
          refine C_reg (mdl []) ?_
          refine S_m (v := .ptr _ _) rfl ?_
          refine S_call (F_scan_scanner_here_ok (p0 := p0) (q0 := q0) h ((q1, .cells [.int .i64 p1.Kind, .int .i64 p1.At, .str p1.Name, mslO 2 b1_3 p1.Pairs, .str p1.Text, .int .i64 p1.Refs]) :: mo b1_3 c_T_scan_Pair p1.Pairs :: O) hq0 ok hF fun x34 _  ok hF => ?_) (.cons (.refl _) (.cons (.refl _) (.nil)))
          refine S_a (v := .bool _) rfl ?_
          refine S_nil ?_
          refine C_if (b := x34) rfl hF (fun hb35 hF => ?_) (fun hb35 hF => ?_)
          ·
           refine C_seq ?_
           refine C_reg (mdl []) ?_
           refine S_m (v := .ptr _ _) rfl ?_
           refine S_m (v := .ptr _ _) rfl ?_
           obtain ⟨hpe, ok⟩ := Hp_pull 2 ok rfl
           rw [hpe]; clear hpe
           obtain ⟨hpe, ok⟩ := Hp_pull 2 ok rfl
           rw [hpe]; clear hpe
           obtain ⟨hpe, ok⟩ := Hp_pull 2 ok rfl
           rw [hpe]; clear hpe
           refine S_call (F_scan_scanner_tag_ok (p0 := p0) (p1 := p1) (q0 := q0) (q1 := q1) (b1_3 := b1_3) h (O) hq0 hq1 zb1_3 ok hF fun x36 u37 _ zu37 ok hF => ?_) (.cons (.refl _) (.cons (.refl _) (.nil)))
           refine S_a (v := .int _ _) rfl ?_
           refine S_nil ?_
           refine WP_ret ?_
           repeat (first | with_reducible refine Exit.sel_ret ?_ | with_reducible refine Exit.blk_ret ?_ | with_reducible refine Exit.jmp_ret ?_)
           have hwo : WO ((q0, .cells [.sl 1 (List.map c_u8 x36.2.1.b) 0, .int .i64 x36.2.1.at_]) :: (q1, .cells [.int .i64 x36.2.2.Kind, .int .i64 x36.2.2.At, .str x36.2.2.Name, mslO 2 u37 x36.2.2.Pairs, .str x36.2.2.Text, .int .i64 x36.2.2.Refs]) :: mo u37 c_T_scan_Pair x36.2.2.Pairs :: O) ((q0, .cells [.sl 1 (List.map c_u8 x36.2.1.b) 0, .int .i64 x36.2.1.at_]) :: (q1, .cells [.int .i64 x36.2.2.Kind, .int .i64 x36.2.2.At, .str x36.2.2.Name, mslO 2 u37 x36.2.2.Pairs, .str x36.2.2.Text, .int .i64 x36.2.2.Refs]) :: mo u37 c_T_scan_Pair x36.2.2.Pairs :: O) := (.keep (.keep (.keep (.refl O))))
           refine C_ret (fn := Tryd.f18) rfl (.tmp (v := .int .i64 x36.1) rfl .nil) ?_
           exact ⟨_, _, (.refl _), (hwo.spec ok).2.2, _, F_some hF, rfl, u37, zu37, (hwo.spec ok).1, rfl⟩
          ·
           refine WP_skip ?_
           refine C_seq ?_
           refine C_reg (mdl []) ?_
           refine S_m (v := .ptr _ _) rfl ?_
           refine S_m (v := .ptr _ _) rfl ?_
           obtain ⟨hpe, ok⟩ := Hp_pull 2 ok rfl
           rw [hpe]; clear hpe
           obtain ⟨hpe, ok⟩ := Hp_pull 2 ok rfl
           rw [hpe]; clear hpe
           obtain ⟨hpe, ok⟩ := Hp_pull 2 ok rfl
           rw [hpe]; clear hpe
           refine S_call (F_scan_scanner_text_ok (p0 := p0) (p1 := p1) (q0 := q0) (q1 := q1) (b1_3 := b1_3) h (O) hq0 hq1 zb1_3 ok hF fun x38 u39 _ zu39 ok hF => ?_) (.cons (.refl _) (.cons (.refl _) (.nil)))
           refine S_a (v := .int _ _) rfl ?_
           refine S_nil ?_
           refine WP_ret ?_
           repeat (first | with_reducible refine Exit.sel_ret ?_ | with_reducible refine Exit.blk_ret ?_ | with_reducible refine Exit.jmp_ret ?_)
           have hwo : WO ((q0, .cells [.sl 1 (List.map c_u8 x38.2.1.b) 0, .int .i64 x38.2.1.at_]) :: (q1, .cells [.int .i64 x38.2.2.Kind, .int .i64 x38.2.2.At, .str x38.2.2.Name, mslO 2 u39 x38.2.2.Pairs, .str x38.2.2.Text, .int .i64 x38.2.2.Refs]) :: mo u39 c_T_scan_Pair x38.2.2.Pairs :: O) ((q0, .cells [.sl 1 (List.map c_u8 x38.2.1.b) 0, .int .i64 x38.2.1.at_]) :: (q1, .cells [.int .i64 x38.2.2.Kind, .int .i64 x38.2.2.At, .str x38.2.2.Name, mslO 2 u39 x38.2.2.Pairs, .str x38.2.2.Text, .int .i64 x38.2.2.Refs]) :: mo u39 c_T_scan_Pair x38.2.2.Pairs :: O) := (.keep (.keep (.keep (.refl O))))
           refine C_ret (fn := Tryd.f18) rfl (.tmp (v := .int .i64 x38.1) rfl .nil) ?_
           exact ⟨_, _, (.refl _), (hwo.spec ok).2.2, _, F_some hF, rfl, u39, zu39, (hwo.spec ok).1, rfl⟩
theorem F_scan_scanner_token_ok {β : Type} {f0 : Int × T_scan_scanner × T_scan_Token → Option β} {G : β → Prop} {R : D → Heap → Prop} {p0 : T_scan_scanner} {p1 : T_scan_Token} {q0 : Nat} {q1 : Nat} {b1_3 : Nat} (h : Heap) (O : List (Nat × AObj)) (hq0 : q0 ≠ 0) (hq1 : q1 ≠ 0) (zb1_3 : b1_3 = 0 → p1.Pairs = []) (ok : OK h ((q0, .cells [.sl 1 (List.map c_u8 p0.b) 0, .int .i64 p0.at_]) :: (q1, .cells [.int .i64 p1.Kind, .int .i64 p1.At, .str p1.Name, mslO 2 b1_3 p1.Pairs, .str p1.Text, .int .i64 p1.Refs]) :: mo b1_3 c_T_scan_Pair p1.Pairs :: O)) (hF : OptP ((F_scan_scanner_token p0 p1).bind f0) G) (hk : ∀ r b1_3', F_scan_scanner_token p0 p1 = some r → (b1_3' = 0 → r.2.2.Pairs = []) → OK h ((q0, .cells [.sl 1 (List.map c_u8 r.2.1.b) 0, .int .i64 r.2.1.at_]) :: (q1, .cells [.int .i64 r.2.2.Kind, .int .i64 r.2.2.At, .str r.2.2.Name, mslO 2 b1_3' r.2.2.Pairs, .str r.2.2.Text, .int .i64 r.2.2.Refs]) :: mo b1_3' c_T_scan_Pair r.2.2.Pairs :: O) → OptP (f0 r) G → R (.int .i64 r.1) (Hp h ((q0, .cells [.sl 1 (List.map c_u8 r.2.1.b) 0, .int .i64 r.2.1.at_]) :: (q1, .cells [.int .i64 r.2.2.Kind, .int .i64 r.2.2.At, .str r.2.2.Name, mslO 2 b1_3' r.2.2.Pairs, .str r.2.2.Text, .int .i64 r.2.2.Refs]) :: mo b1_3' c_T_scan_Pair r.2.2.Pairs :: O))) : CallsA Tryd.prog 18 [.ptr q0 0, .ptr q1 0] (Hp h ((q0, .cells [.sl 1 (List.map c_u8 p0.b) 0, .int .i64 p0.at_]) :: (q1, .cells [.int .i64 p1.Kind, .int .i64 p1.At, .str p1.Name, mslO 2 b1_3 p1.Pairs, .str p1.Text, .int .i64 p1.Refs]) :: mo b1_3 c_T_scan_Pair p1.Pairs :: O)) R := by
 obtain ⟨r0, hr, hF⟩ := F_bind hF
 refine (F_scan_scanner_token_w (G := fun r => r = r0) p0 p1 q0 q1 b1_3 h O hq0 hq1 zb1_3 ok ⟨r0, hr, rfl⟩).mono ?_
 rintro _ _ ⟨r, rfl, rfl, b1_3', y0, ok', rfl⟩
 exact hk _ _ hr y0 ok' hF
theorem F_scan_All_w (p0 : List UInt8) {G : (List T_scan_Token) × Int × Int → Prop} (h : Heap) (hF : OptP (F_scan_All p0) G) : CallsA Tryd.prog 9 [.sl 1 (List.map c_u8 p0) 0] h fun d h' => ∃ r, G r ∧ d = .tup [.sl 6 (List.map c_T_scan_Token r.1) 0, .int .i64 r.2.1, .int .i64 r.2.2] ∧ h' = h := by
 refine CallsA.ret ?_
 refine C_body Tryd.func9 rfl en_9 Tryd.ntmps9 rfl (fun ok => ?_)
 rw [F_scan_All] at hF
 refine C_seq ?_
 refine C_reg (mdl []) ?_
 refine S_a (v := .snil) rfl ?_
 refine S_one 2 (v := .sl 6 (List.map c_T_scan_Token ([] : List T_scan_Token)) 0) (.nil _) ?_
 refine S_a (v := .int _ _) rfl ?_
 refine S_a (v := .int _ _) rfl ?_
 refine S_nil ?_
 refine WP_scope ?_
 refine JW_step ?_
 refine C_seq ?_
 refine C_seq ?_
 refine C_reg (mdl []) ?_
 refine S_m (v := .sl _ _ _) rfl ?_
 refine S_lenL rfl ty_sl_22 ?_
 refine S_bin rfl rfl (ev_gtr ..) ?_
 refine S_nil ?_
 refine C_if (b := (decide ((65536 : Int) < (p0.length : Int)))) rfl hF (fun hb1 hF => ?_) (fun hb1 hF => ?_)
 ·
  refine C_seq ?_
  refine C_reg (mdl []) ?_
  refine S_a (v := .snil) rfl ?_
  refine S_one 2 (v := .sl 6 (List.map c_T_scan_Token ([] : List T_scan_Token)) 0) (.nil _) ?_
  refine S_a (v := .int _ _) rfl ?_
  refine S_a (v := .int _ _) rfl ?_
  refine S_nil ?_
  refine WP_ret ?_
  repeat (first | with_reducible refine Exit.sel_ret ?_ | with_reducible refine Exit.blk_ret ?_ | with_reducible refine Exit.jmp_ret ?_)
  refine C_ret (fn := Tryd.f9) rfl (.tmp (v := .sl 6 (List.map c_T_scan_Token ([] : List T_scan_Token)) 0) rfl (.tmp (v := .int .i64 (0 : Int)) rfl (.tmp (v := .int .i64 (6 : Int)) rfl .nil))) ?_
  exact ⟨_, _, (.tupC (.cons (.refl _) (.cons (.refl _) (.cons (.refl _) (.nil))))), ok.wh, _, F_some hF, rfl, rfl⟩
 ·
  refine WP_skip ?_
  refine C_seq ?_
  refine C_reg (mdl [(18, 1)]) ?_
  refine S_m (v := .sl _ _ _) rfl ?_
  refine S_call (F_scan_Plain_ok _ hF fun x2 _ hF => ?_) (.cons (.refl _) (.nil))
  refine S_bld (v := .agg (c_T_scan_scanner (⟨x2, (0 : Int)⟩ : T_scan_scanner))) (b_st ty_zc_54 ty_pl_54 rfl) ?_
  refine S_box1 (cs := [.sl 1 (List.map c_u8 (⟨x2, (0 : Int)⟩ : T_scan_scanner).b) 0, .int .i64 (⟨x2, (0 : Int)⟩ : T_scan_scanner).at_]) ok rfl rfl rfl rfl ?_
  intro i3 hi3 ok
  refine S_a (v := .ptr _ _) rfl ?_
  refine S_nil ?_
  refine C_seq ?_
  refine C_seq ?_
  refine C_reg (mdl []) ?_
  refine S_m (v := .ptr _ _) rfl ?_
  refine S_nilc (v := .ptr _ _) rfl rfl ?_
  refine S_faP rfl ty_fd_54_0 ty_sz_22 ?_
  refine S_ldP (j := 0) ok rfl rfl rfl hi3 (p_one (v := .sl 1 (List.map c_u8 (⟨x2, (0 : Int)⟩ : T_scan_scanner).b) 0) ty_ag_22 ty_sz_22 rfl) ?_
  refine S_call (F_char_Fault_ok _ hF fun x4 _ hF => ?_) (.cons (.refl _) (.nil))
  refine S_m (v := .tup _) rfl ?_
  refine S_ext rfl rfl ?_
  refine S_ext rfl rfl ?_
  refine S_a (v := .int _ _) rfl ?_
  refine S_a (v := .int _ _) rfl ?_
  refine S_nil ?_
  refine C_seq ?_
  refine C_reg (mdl []) ?_
  refine S_m (v := .int _ _) rfl ?_
  refine S_bin rfl rfl (ev_neq ..) ?_
  refine S_nil ?_
  refine C_if (b := (x4.2 != (0 : Int))) rfl hF (fun hb5 hF => ?_) (fun hb5 hF => ?_)
  ·
   refine C_seq ?_
   refine C_reg (mdl []) ?_
   refine S_m (v := .int _ _) rfl ?_
   refine S_m (v := .int _ _) rfl ?_
   refine S_a (v := .snil) rfl ?_
   refine S_one 2 (v := .sl 6 (List.map c_T_scan_Token ([] : List T_scan_Token)) 0) (.nil _) ?_
   refine S_a (v := .int _ _) rfl ?_
   refine S_a (v := .int _ _) rfl ?_
   refine S_nil ?_
   refine WP_ret ?_
   repeat (first | with_reducible refine Exit.sel_ret ?_ | with_reducible refine Exit.blk_ret ?_ | with_reducible refine Exit.jmp_ret ?_)
   refine C_ret (fn := Tryd.f9) rfl (.tmp (v := .sl 6 (List.map c_T_scan_Token ([] : List T_scan_Token)) 0) rfl (.tmp (v := .int .i64 x4.1) rfl (.tmp (v := .int .i64 x4.2) rfl .nil))) ?_
   exact ⟨_, _, (.tupC (.cons (.refl _) (.cons (.refl _) (.cons (.refl _) (.nil))))), ok.wh, _, F_some hF, rfl, rfl⟩
  ·
   refine WP_skip ?_
   refine C_seq ?_
   refine C_reg (mdl []) ?_
   refine S_a (v := .snil) rfl ?_
   refine S_nilB c_T_scan_Token ok (fun ok => ?_)
   refine S_nil ?_
   refine C_seq ?_
   refine C_reg (mdl []) ?_
   refine S_a (v := .int _ _) rfl ?_
   refine S_nil ?_
   refine C_seq ?_
   refine WP_label ?_
   refine C_gloop (σ := (List UInt8) × Int × (List T_scan_Token)) hF (fun (v : (List UInt8) × Int × (List T_scan_Token)) s' => match v with | (a7, a8, a10) => ∃ g9 : Nat, (g9 = 0 → a10 = []) ∧ OK h [mo g9 c_T_scan_Token a10, (i3, .cells [.sl 1 (List.map c_u8 a7) 0, .int .i64 a8])] ∧ WS s' ⟨mkSl 58 [(5, .ptr i3 0), (8, mslO 6 g9 a10)], Hp h [mo g9 c_T_scan_Token a10, (i3, .cells [.sl 1 (List.map c_u8 a7) 0, .int .i64 a8])]⟩) ?_ ?_
   ·
    have hwo : WO [mo 0 c_T_scan_Token ([] : List T_scan_Token), (i3, .cells [.sl 1 (List.map c_u8 (⟨x2, (0 : Int)⟩ : T_scan_scanner).b) 0, .int .i64 (⟨x2, (0 : Int)⟩ : T_scan_scanner).at_])] [mo 0 c_T_scan_Token ([] : List T_scan_Token), (i3, .cells [.sl 1 (List.map c_u8 (⟨x2, (0 : Int)⟩ : T_scan_scanner).b) 0, .int .i64 (⟨x2, (0 : Int)⟩ : T_scan_scanner).at_])] := (.keep (.keep .nil))
    exact ⟨0, (fun _ => rfl), (hwo.spec ok).1, WS.mk' (.cons (.refl _) (.cons (.refl _) .nil)) ok hwo⟩
   ·
    rintro G11 hG12 rec13 ⟨a7, a8, a10⟩ s' ih14 hF ⟨g9, zg9, ok, hws⟩
    refine WP_ws hws ?_
    clear hws s'
    rw [F_scan_All_l0] at hF
    refine C_seq ?_
    refine C_seq ?_
    refine C_drw (mdl []) (by kernel_rfl) (by kernel_rfl) ?_
    refine S_m (v := .ptr _ _) rfl ?_
    refine S_nilc (v := .ptr _ _) rfl rfl ?_
    refine S_faP rfl ty_fd_54_1 ty_sz_3 ?_
    refine S_ldP (j := 1) ok rfl rfl rfl hi3 (p_one (v := .int .i64 a8) ty_ag_3 ty_sz_3 rfl) ?_
    refine S_m (v := .ptr _ _) rfl ?_
    refine S_nilc (v := .ptr _ _) rfl rfl ?_
    refine S_faP rfl ty_fd_54_0 ty_sz_22 ?_
    refine S_ldP (j := 1) ok rfl rfl rfl hi3 (p_one (v := .sl 1 (List.map c_u8 a7) 0) ty_ag_22 ty_sz_22 rfl) ?_
    refine S_lenL rfl ty_sl_22 ?_
    refine S_bin rfl rfl (ev_eql ..) ?_
    refine S_nil ?_
    refine C_if (b := (a8 == (a7.length : Int))) rfl hF (fun hb15 hF => ?_) (fun hb15 hF => ?_)
    ·
     refine C_seq ?_
     refine C_reg (mdl []) ?_
     refine S_m (v := mslO _ _ _) rfl ?_
     refine S_a (v := mslO _ _ _) rfl ?_
     refine S_frzO 0 2 ok zg9 rfl rfl (fun _ => rfl) (fun ok => ?_)
     refine S_a (v := .int _ _) rfl ?_
     refine S_a (v := .int _ _) rfl ?_
     refine S_nil ?_
     refine WP_ret ?_
     replace hF := hG12 _ (F_some hF)
     repeat (first | with_reducible refine Exit.sel_ret ?_ | with_reducible refine Exit.blk_ret ?_ | with_reducible refine Exit.jmp_ret ?_)
     refine C_ret (fn := Tryd.f9) rfl (.tmp (v := .sl 6 (List.map c_T_scan_Token a10) 0) rfl (.tmp (v := .int .i64 (0 : Int)) rfl (.tmp (v := .int .i64 (0 : Int)) rfl .nil))) ?_
     exact ⟨_, _, (.tupC (.cons (.refl _) (.cons (.refl _) (.cons (.refl _) (.nil))))), ok.wh, _, F_some hF, rfl, rfl⟩
    ·
     refine WP_skip ?_
     refine C_seq ?_
     refine C_reg (mdl []) ?_
     refine S_m (v := .ptr _ _) rfl ?_
     refine S_nilc (v := .ptr _ _) rfl rfl ?_
     refine S_faP rfl ty_fd_54_1 ty_sz_3 ?_
     refine S_ldP (j := 1) ok rfl rfl rfl hi3 (p_one (v := .int .i64 a8) ty_ag_3 ty_sz_3 rfl) ?_
     refine S_a (v := .int _ _) rfl ?_
     refine S_nil ?_
     refine C_seq ?_
     refine C_reg (mdl [(11, 1)]) ?_
     refine S_m (v := .int _ _) rfl ?_
     refine S_bld (v := .agg [.int .i64 (0 : Int), .int .i64 a8, .str ([] : List UInt8), .snil, .str ([] : List UInt8), .int .i64 (0 : Int)]) (b_st ty_zc_30 ty_pl_30 rfl) ?_
     refine S_all1 ok rfl ty_zc_30 ?_
     intro i17 hi17 ok
     refine S_nilB c_T_scan_Pair ok (fun ok => ?_)
     refine S_st (j := 1) (cs' := [.int .i64 (0 : Int), .int .i64 a8, .str ([] : List UInt8), .snil, .str ([] : List UInt8), .int .i64 (0 : Int)]) ok rfl rfl rfl hi17 rfl ty_sz_30 rfl rfl (fun ok => ?_)
     refine S_nilB c_T_scan_Pair ok (fun ok => ?_)
     refine S_nil ?_
     refine C_seq ?_
     refine C_reg (mdl []) ?_
     refine S_m (v := .ptr _ _) rfl ?_
     obtain ⟨hpe, ok⟩ := Hp_pull 2 ok rfl
     rw [hpe]; clear hpe
     obtain ⟨hpe, ok⟩ := Hp_pull 4 ok rfl
     rw [hpe]; clear hpe
     refine S_call (F_scan_scanner_token_ok (p0 := (⟨a7, a8⟩ : T_scan_scanner)) (p1 := (⟨(0 : Int), a8, ([] : List UInt8), ([] : List T_scan_Pair), ([] : List UInt8), (0 : Int)⟩ : T_scan_Token)) (q0 := i3) (q1 := i17) (b1_3 := 0) h [mo 0 c_T_scan_Pair ([] : List T_scan_Pair), mo g9 c_T_scan_Token a10] hi3 hi17 (fun _ => rfl) ok hF fun x20 u21 _ zu21 ok hF => ?_) (.cons (.refl _) (.cons (.refl _) (.nil)))
     refine S_a (v := .int _ _) rfl ?_
     refine S_nil ?_
     refine C_seq ?_
     refine C_seq ?_
     refine C_reg (mdl []) ?_
     refine S_m (v := .int _ _) rfl ?_
     refine S_bin rfl rfl (ev_neq ..) ?_
     refine S_nil ?_
     refine C_if (b := (x20.1 != (0 : Int))) rfl hF (fun hb22 hF => ?_) (fun hb22 hF => ?_)
     ·
      refine C_seq ?_
      refine C_reg (mdl []) ?_
      refine S_m (v := .int _ _) rfl ?_
      refine S_m (v := .int _ _) rfl ?_
      refine S_a (v := .snil) rfl ?_
      refine S_one 2 (v := .sl 6 (List.map c_T_scan_Token ([] : List T_scan_Token)) 0) (.nil _) ?_
      refine S_a (v := .int _ _) rfl ?_
      refine S_a (v := .int _ _) rfl ?_
      refine S_nil ?_
      refine WP_ret ?_
      replace hF := hG12 _ (F_some hF)
      repeat (first | with_reducible refine Exit.sel_ret ?_ | with_reducible refine Exit.blk_ret ?_ | with_reducible refine Exit.jmp_ret ?_)
      refine C_ret (fn := Tryd.f9) rfl (.tmp (v := .sl 6 (List.map c_T_scan_Token ([] : List T_scan_Token)) 0) rfl (.tmp (v := .int .i64 a8) rfl (.tmp (v := .int .i64 x20.1) rfl .nil))) ?_
      exact ⟨_, _, (.tupC (.cons (.refl _) (.cons (.refl _) (.cons (.refl _) (.nil))))), ok.wh, _, F_some hF, rfl, rfl⟩
     ·
      refine WP_skip ?_
      refine C_seq ?_
      refine C_reg (mdl [(57, 1)]) ?_
      refine S_frzF (c := c_T_scan_Pair) (e := x20.2.2.Pairs) (cs' := [.int .i64 x20.2.2.Kind, .int .i64 x20.2.2.At, .str x20.2.2.Name, .sl 2 (List.map c_T_scan_Pair x20.2.2.Pairs) 0, .str x20.2.2.Text, .int .i64 x20.2.2.Refs]) 1 2 3 ok zu21 rfl hi17 rfl (by decide) (fun _ => rfl) rfl rfl (fun ok => ?_)
      refine S_frzP 1 11 ok rfl rfl hi17 (fun ok => ?_)
      refine S_m (v := mslO _ _ _) rfl ?_
      refine S_ldQ rfl (p_agg (vs := c_T_scan_Token x20.2.2) ty_ag_30 ty_sz_30 rfl rfl) ?_
      refine S_lit0 (cs := [.int .i64 x20.2.2.Kind, .int .i64 x20.2.2.At, .str x20.2.2.Name, .sl 2 (List.map c_T_scan_Pair x20.2.2.Pairs) 0, .str x20.2.2.Text, .int .i64 x20.2.2.Refs]) (es := (List.map c_T_scan_Token [x20.2.2])) rfl ty_el_24 rfl (by kernel_rfl) (by kernel_rfl) ?_
      refine S_appO (j := 4) (M := [x20.2.2]) ok zg9 rfl rfl src_sl (fun _ => rfl) rfl ty_el_24 ty_ni_24 hF ?_
      intro u26 zu26 ok hF
      obtain ⟨a27, ha27, hF⟩ := F_let hF
      rw [← ha27] at ok zu26
      rw [← ha27]
      refine S_a (v := mslO _ _ _) rfl ?_
      refine S_nil ?_
      refine WP_goto ?_
      repeat (first | with_reducible refine Exit.sel_goto ?_ | with_reducible refine Exit.blk_goto ?_)
      refine jmp_goto rfl ?_
      refine ih14 (x20.2.1.b, x20.2.1.at_, a27) _ hF ?_
      obtain ⟨hpe, ok⟩ := Hp_pull 4 ok rfl
      rw [hpe]; clear hpe
      have hwo : WO [mo u26 c_T_scan_Token a27, (i3, .cells [.sl 1 (List.map c_u8 x20.2.1.b) 0, .int .i64 x20.2.1.at_]), (0, .room), (0, .room), mo 0 c_T_scan_Pair ([] : List T_scan_Pair)] [mo u26 c_T_scan_Token a27, (i3, .cells [.sl 1 (List.map c_u8 x20.2.1.b) 0, .int .i64 x20.2.1.at_])] := (.keep (.keep (.drop (.drop (.drop .nil)))))
      exact ⟨u26, zu26, (hwo.spec ok).1, WS.mk' (.cons (.refl _) (.cons (.refl _) .nil)) ok hwo⟩
theorem F_scan_All_ok {β : Type} {f : (List T_scan_Token) × Int × Int → Option β} {G : β → Prop} {R : D → Heap → Prop} {p0 : List UInt8} (h : Heap) (hF : OptP ((F_scan_All p0).bind f) G) (hk : ∀ r, F_scan_All p0 = some r → OptP (f r) G → R (.tup [.sl 6 (List.map c_T_scan_Token r.1) 0, .int .i64 r.2.1, .int .i64 r.2.2]) h) : CallsA Tryd.prog 9 [.sl 1 (List.map c_u8 p0) 0] h R := by
 obtain ⟨r0, hr, hF⟩ := F_bind hF
 refine (F_scan_All_w (G := fun r => r = r0) p0 h ⟨r0, hr, rfl⟩).mono ?_
 rintro _ _ ⟨r, rfl, rfl, rfl⟩
 exact hk _ hr hF
theorem F_lecternlaw03_awake_w {G : Bool → Prop} (h : Heap) (hF : OptP (F_lecternlaw03_awake) G) : CallsA Tryd.prog 8 [] h fun d h' => ∃ r, G r ∧ d = .bool r ∧ h' = h := by
 refine CallsA.ret ?_
 refine C_body Tryd.func8 rfl en_8 Tryd.ntmps8 rfl (fun ok => ?_)
 rw [F_lecternlaw03_awake] at hF
 refine C_seq ?_
 refine C_reg (mdl []) ?_
 refine S_a (v := .bool _) rfl ?_
 refine S_nil ?_
 refine C_seq ?_
 refine C_reg (mdl [(8, 5), (9, 5)]) ?_
 refine S_lit5 (cs := [.int .u8 60, .int .u8 97, .int .u8 62, .int .u8 120, .int .u8 38, .int .u8 97, .int .u8 109, .int .u8 112, .int .u8 59, .int .u8 121, .int .u8 60, .int .u8 47, .int .u8 97, .int .u8 62]) ok rfl ty_el_22 rfl (by kernel_rfl) ?_
 intro i1 hi1 ok
 refine S_cvt (v := .sl 1 (List.map c_u8 ([60, 97, 62, 120, 38, 97, 109, 112, 59, 121, 60, 47, 97, 62] : List UInt8)) 0) (by kernel_rfl) 0 ok rfl rfl hi1 rfl ty_sl_22 ty_ki_5 rfl rfl (fun ok => ?_)
 refine S_call (F_scan_All_ok _ hF fun x3 _ hF => ?_) (.cons (.refl _) (.nil))
 refine S_m (v := .tup _) rfl ?_
 refine S_ext rfl rfl ?_
 refine S_ext rfl rfl ?_
 refine S_ext rfl rfl ?_
 refine S_a (v := .sl _ _ _) rfl ?_
 refine S_a (v := .int _ _) rfl ?_
 refine S_a (v := .int _ _) rfl ?_
 refine S_nil ?_
 refine C_seq ?_
 refine C_reg (mdl [(15, 5), (16, 5)]) ?_
 refine S_lit5 (cs := [.int .u8 60, .int .u8 97, .int .u8 32, .int .u8 98, .int .u8 61, .int .u8 39, .int .u8 49, .int .u8 39, .int .u8 32, .int .u8 98, .int .u8 61, .int .u8 39, .int .u8 50, .int .u8 39, .int .u8 62]) ok rfl ty_el_22 rfl (by kernel_rfl) ?_
 intro i4 hi4 ok
 refine S_cvt (v := .sl 1 (List.map c_u8 ([60, 97, 32, 98, 61, 39, 49, 39, 32, 98, 61, 39, 50, 39, 62] : List UInt8)) 0) (by kernel_rfl) 0 ok rfl rfl hi4 rfl ty_sl_22 ty_ki_5 rfl rfl (fun ok => ?_)
 refine S_call (F_scan_All_ok _ hF fun x6 _ hF => ?_) (.cons (.refl _) (.nil))
 refine S_m (v := .tup _) rfl ?_
 refine S_ext rfl rfl ?_
 refine S_ext rfl rfl ?_
 refine S_ext rfl rfl ?_
 refine S_a (v := .sl _ _ _) rfl ?_
 refine S_a (v := .int _ _) rfl ?_
 refine S_a (v := .int _ _) rfl ?_
 refine S_nil ?_
 refine C_seq ?_
 refine C_reg (mdl []) ?_
 refine S_m (v := .int _ _) rfl ?_
 refine S_bin rfl rfl (ev_eql ..) ?_
 refine S_m (v := .bool _) rfl ?_
 refine S_two (b := (x3.2.2 == (0 : Int))) 3 26 (.bool ((x3.2.2 == (0 : Int)) && (x6.2.2 == (27 : Int)))) (fun hb7 => ?_) (fun hb7 => ?_) ?_
 ·
  refine S_on rfl rfl hb7 ?_
  refine S_in ?_
  refine S_m (v := .int _ _) rfl ?_
  refine S_nil ?_
  refine S_on rfl rfl hb7 ?_
  refine S_in ?_
  refine S_bin rfl rfl (ev_eql ..) ?_
  refine S_nil ?_
  refine S_pickT (v := .bool _) rfl hb7 rfl ?_
  refine S_nil ?_
  refine .hd (and_t hb7) ?_
  repeat (first | with_reducible exact WS.refl _ | refine WS.add ?_ rfl | exact WS.refl _)
 ·
  refine S_off rfl rfl hb7 ?_
  refine S_offD ?_
  refine S_off rfl rfl hb7 ?_
  refine S_offD ?_
  refine S_pickF (v := .bool _) rfl hb7 rfl ?_
  refine S_nil ?_
  refine .hd (and_f hb7) ?_
  repeat (first | with_reducible exact WS.refl _ | refine WS.add ?_ rfl | exact WS.refl _)
 refine S_m (v := .bool _) rfl ?_
 refine S_two (b := ((x3.2.2 == (0 : Int)) && (x6.2.2 == (27 : Int)))) 4 31 (.bool (((x3.2.2 == (0 : Int)) && (x6.2.2 == (27 : Int))) && ((x3.1.length : Int) == (3 : Int)))) (fun hb8 => ?_) (fun hb8 => ?_) ?_
 ·
  refine S_on rfl rfl hb8 ?_
  refine S_in ?_
  refine S_m (v := .sl _ _ _) rfl ?_
  refine S_nil ?_
  refine S_on rfl rfl hb8 ?_
  refine S_in ?_
  refine S_lenL rfl ty_sl_24 ?_
  refine S_nil ?_
  refine S_on rfl rfl hb8 ?_
  refine S_in ?_
  refine S_bin rfl rfl (ev_eql ..) ?_
  refine S_nil ?_
  refine S_pickT (v := .bool _) rfl hb8 rfl ?_
  refine S_nil ?_
  refine .hd (and_t hb8) ?_
  repeat (first | with_reducible exact WS.refl _ | refine WS.add ?_ rfl | exact WS.refl _)
 ·
  refine S_off rfl rfl hb8 ?_
  refine S_offD ?_
  refine S_off rfl rfl hb8 ?_
  refine S_offD ?_
  refine S_off rfl rfl hb8 ?_
  refine S_offD ?_
  refine S_pickF (v := .bool _) rfl hb8 rfl ?_
  refine S_nil ?_
  refine .hd (and_f hb8) ?_
  repeat (first | with_reducible exact WS.refl _ | refine WS.add ?_ rfl | exact WS.refl _)
 refine S_m (v := .bool _) rfl ?_
 refine S_twoJ 6 38 hF (fun J10 hb9 hF => ?_) (fun J10 hb9 hF => ?_) (fun v11 hF => ?_)
 ·
  refine S_on rfl rfl hb9 ?_
  refine S_in ?_
  refine S_m (v := .sl _ _ _) rfl ?_
  refine S_nil ?_
  refine S_on rfl rfl hb9 ?_
  refine S_in ?_
  refine S_ix rfl rfl ty_sl_24 ty_sz_30 hF (fun x12 _ hF => ?_)
  refine S_nil ?_
  refine S_on rfl rfl hb9 ?_
  refine S_in ?_
  refine S_faQ rfl ty_fd_30_4 ty_sz_9 rfl ?_
  refine S_nil ?_
  refine S_on rfl rfl hb9 ?_
  refine S_in ?_
  refine S_ldQ rfl (p_one ty_ag_9 ty_sz_9 rfl) ?_
  refine S_nil ?_
  refine S_on rfl rfl hb9 ?_
  refine S_in ?_
  refine S_bin rfl rfl e_seql ?_
  refine S_nil ?_
  refine S_pickT (v := .bool _) rfl hb9 rfl ?_
  refine S_nil ?_
  refine ⟨_, hF, .hd (.refl _) ?_⟩
  repeat (first | with_reducible exact WS.refl _ | refine WS.add ?_ rfl | exact WS.refl _)
 ·
  refine S_off rfl rfl hb9 ?_
  refine S_offD ?_
  refine S_off rfl rfl hb9 ?_
  refine S_offD ?_
  refine S_off rfl rfl hb9 ?_
  refine S_offD ?_
  refine S_off rfl rfl hb9 ?_
  refine S_offD ?_
  refine S_off rfl rfl hb9 ?_
  refine S_offD ?_
  refine S_pickF (v := .bool _) rfl hb9 rfl ?_
  refine S_nil ?_
  refine ⟨_, hF, .hd (.refl _) ?_⟩
  repeat (first | with_reducible exact WS.refl _ | refine WS.add ?_ rfl | exact WS.refl _)
 ·
  refine S_m (v := .bool _) rfl ?_
  refine S_twoJ 6 45 hF (fun J14 hb13 hF => ?_) (fun J14 hb13 hF => ?_) (fun v15 hF => ?_)
  ·
   refine S_on rfl rfl hb13 ?_
   refine S_in ?_
   refine S_m (v := .sl _ _ _) rfl ?_
   refine S_nil ?_
   refine S_on rfl rfl hb13 ?_
   refine S_in ?_
   refine S_ix rfl rfl ty_sl_24 ty_sz_30 hF (fun x16 _ hF => ?_)
   refine S_nil ?_
   refine S_on rfl rfl hb13 ?_
   refine S_in ?_
   refine S_faQ rfl ty_fd_30_5 ty_sz_3 rfl ?_
   refine S_nil ?_
   refine S_on rfl rfl hb13 ?_
   refine S_in ?_
   refine S_ldQ rfl (p_one ty_ag_3 ty_sz_3 rfl) ?_
   refine S_nil ?_
   refine S_on rfl rfl hb13 ?_
   refine S_in ?_
   refine S_bin rfl rfl (ev_eql ..) ?_
   refine S_nil ?_
   refine S_pickT (v := .bool _) rfl hb13 rfl ?_
   refine S_nil ?_
   refine ⟨_, hF, .hd (.refl _) ?_⟩
   repeat (first | with_reducible exact WS.refl _ | refine WS.add ?_ rfl | exact WS.refl _)
  ·
   refine S_off rfl rfl hb13 ?_
   refine S_offD ?_
   refine S_off rfl rfl hb13 ?_
   refine S_offD ?_
   refine S_off rfl rfl hb13 ?_
   refine S_offD ?_
   refine S_off rfl rfl hb13 ?_
   refine S_offD ?_
   refine S_off rfl rfl hb13 ?_
   refine S_offD ?_
   refine S_pickF (v := .bool _) rfl hb13 rfl ?_
   refine S_nil ?_
   refine ⟨_, hF, .hd (.refl _) ?_⟩
   repeat (first | with_reducible exact WS.refl _ | refine WS.add ?_ rfl | exact WS.refl _)
  ·
   refine S_m (v := .bool _) rfl ?_
   refine S_twoJ 6 52 hF (fun J18 hb17 hF => ?_) (fun J18 hb17 hF => ?_) (fun v19 hF => ?_)
   ·
    refine S_on rfl rfl hb17 ?_
    refine S_in ?_
    refine S_m (v := .sl _ _ _) rfl ?_
    refine S_nil ?_
    refine S_on rfl rfl hb17 ?_
    refine S_in ?_
    refine S_ix rfl rfl ty_sl_24 ty_sz_30 hF (fun x20 _ hF => ?_)
    refine S_nil ?_
    refine S_on rfl rfl hb17 ?_
    refine S_in ?_
    refine S_faQ rfl ty_fd_30_0 ty_sz_3 rfl ?_
    refine S_nil ?_
    refine S_on rfl rfl hb17 ?_
    refine S_in ?_
    refine S_ldQ rfl (p_one ty_ag_3 ty_sz_3 rfl) ?_
    refine S_nil ?_
    refine S_on rfl rfl hb17 ?_
    refine S_in ?_
    refine S_bin rfl rfl (ev_eql ..) ?_
    refine S_nil ?_
    refine S_pickT (v := .bool _) rfl hb17 rfl ?_
    refine S_nil ?_
    refine ⟨_, hF, .hd (.refl _) ?_⟩
    repeat (first | with_reducible exact WS.refl _ | refine WS.add ?_ rfl | exact WS.refl _)
   ·
    refine S_off rfl rfl hb17 ?_
    refine S_offD ?_
    refine S_off rfl rfl hb17 ?_
    refine S_offD ?_
    refine S_off rfl rfl hb17 ?_
    refine S_offD ?_
    refine S_off rfl rfl hb17 ?_
    refine S_offD ?_
    refine S_off rfl rfl hb17 ?_
    refine S_offD ?_
    refine S_pickF (v := .bool _) rfl hb17 rfl ?_
    refine S_nil ?_
    refine ⟨_, hF, .hd (.refl _) ?_⟩
    repeat (first | with_reducible exact WS.refl _ | refine WS.add ?_ rfl | exact WS.refl _)
   ·
    refine S_m (v := .bool _) rfl ?_
    refine S_twoJ 6 59 hF (fun J22 hb21 hF => ?_) (fun J22 hb21 hF => ?_) (fun v23 hF => ?_)
    ·
     refine S_on rfl rfl hb21 ?_
     refine S_in ?_
     refine S_m (v := .sl _ _ _) rfl ?_
     refine S_nil ?_
     refine S_on rfl rfl hb21 ?_
     refine S_in ?_
     refine S_ix rfl rfl ty_sl_24 ty_sz_30 hF (fun x24 _ hF => ?_)
     refine S_nil ?_
     refine S_on rfl rfl hb21 ?_
     refine S_in ?_
     refine S_faQ rfl ty_fd_30_1 ty_sz_3 rfl ?_
     refine S_nil ?_
     refine S_on rfl rfl hb21 ?_
     refine S_in ?_
     refine S_ldQ rfl (p_one ty_ag_3 ty_sz_3 rfl) ?_
     refine S_nil ?_
     refine S_on rfl rfl hb21 ?_
     refine S_in ?_
     refine S_bin rfl rfl (ev_eql ..) ?_
     refine S_nil ?_
     refine S_pickT (v := .bool _) rfl hb21 rfl ?_
     refine S_nil ?_
     refine ⟨_, hF, .hd (.refl _) ?_⟩
     repeat (first | with_reducible exact WS.refl _ | refine WS.add ?_ rfl | exact WS.refl _)
    ·
     refine S_off rfl rfl hb21 ?_
     refine S_offD ?_
     refine S_off rfl rfl hb21 ?_
     refine S_offD ?_
     refine S_off rfl rfl hb21 ?_
     refine S_offD ?_
     refine S_off rfl rfl hb21 ?_
     refine S_offD ?_
     refine S_off rfl rfl hb21 ?_
     refine S_offD ?_
     refine S_pickF (v := .bool _) rfl hb21 rfl ?_
     refine S_nil ?_
     refine ⟨_, hF, .hd (.refl _) ?_⟩
     repeat (first | with_reducible exact WS.refl _ | refine WS.add ?_ rfl | exact WS.refl _)
    ·
     refine S_a (v := .bool _) rfl ?_
     refine S_nil ?_
     refine WP_ret ?_
     repeat (first | with_reducible refine Exit.sel_ret ?_ | with_reducible refine Exit.blk_ret ?_ | with_reducible refine Exit.jmp_ret ?_)
     refine C_ret (fn := Tryd.f8) rfl (.tmp (v := .bool v23) rfl .nil) ?_
     exact ⟨_, _, (.refl _), ok.wh, _, F_some hF, rfl, rfl⟩
theorem F_lecternlaw03_awake_ok {β : Type} {f : Bool → Option β} {G : β → Prop} {R : D → Heap → Prop} (h : Heap) (hF : OptP ((F_lecternlaw03_awake).bind f) G) (hk : ∀ r, F_lecternlaw03_awake = some r → OptP (f r) G → R (.bool r) h) : CallsA Tryd.prog 8 [] h R := by
 obtain ⟨r0, hr, hF⟩ := F_bind hF
 refine (F_lecternlaw03_awake_w (G := fun r => r = r0)  h ⟨r0, hr, rfl⟩).mono ?_
 rintro _ _ ⟨r, rfl, rfl, rfl⟩
 exact hk _ hr hF
theorem F_lecternlaw03_doc_w (p0 : T_scan_Token) {G : T_lecternref03_Token → Prop} (h : Heap) (hF : OptP (F_lecternlaw03_doc p0) G) : CallsA Tryd.prog 13 [.agg (c_T_scan_Token p0)] h fun d h' => ∃ r, G r ∧ d = .agg (c_T_lecternref03_Token r) ∧ h' = h := by
 refine CallsA.ret ?_
 refine C_body Tryd.func13 rfl en_13 Tryd.ntmps13 rfl (fun ok => ?_)
 rw [F_lecternlaw03_doc] at hF
 refine C_seq ?_
 refine C_reg (mdl [(2, 1)]) ?_
 refine S_box0 rfl rfl rfl rfl ?_
 refine S_all1 ok rfl ty_zc_40 ?_
 intro i1 hi1 ok
 refine S_nil ?_
 refine C_seq ?_
 refine C_reg (mdl [(3, 1)]) ?_
 refine S_faQ rfl ty_fd_30_0 ty_sz_3 rfl ?_
 refine S_ldQ rfl (p_one ty_ag_3 ty_sz_3 rfl) ?_
 refine S_faQ rfl ty_fd_30_1 ty_sz_3 rfl ?_
 refine S_ldQ rfl (p_one ty_ag_3 ty_sz_3 rfl) ?_
 refine S_faQ rfl ty_fd_30_2 ty_sz_9 rfl ?_
 refine S_ldQ rfl (p_one ty_ag_9 ty_sz_9 rfl) ?_
 refine S_faQ rfl ty_fd_30_4 ty_sz_9 rfl ?_
 refine S_ldQ rfl (p_one ty_ag_9 ty_sz_9 rfl) ?_
 refine S_faQ rfl ty_fd_30_5 ty_sz_3 rfl ?_
 refine S_ldQ rfl (p_one ty_ag_3 ty_sz_3 rfl) ?_
 refine S_bld (v := .agg [.int .i64 p0.Kind, .int .i64 p0.At, .str p0.Name, .snil, .str p0.Text, .int .i64 p0.Refs]) (b_st ty_zc_40 ty_pl_40 rfl) ?_
 refine S_all1 ok rfl ty_zc_40 ?_
 intro i2 hi2 ok
 refine S_st (j := 0) (cs' := [.int .i64 p0.Kind, .int .i64 p0.At, .str p0.Name, .snil, .str p0.Text, .int .i64 p0.Refs]) ok rfl rfl rfl hi2 rfl ty_sz_40 rfl rfl (fun ok => ?_)
 refine S_ghostO 0 3 2 (fun r3 => [.int .i64 p0.Kind, .int .i64 p0.At, .str p0.Name, .sl 2 (List.map c_T_scan_Pair ([] : List T_scan_Pair)) r3, .str p0.Text, .int .i64 p0.Refs]) ok rfl hi2 rfl (fun _ => rfl) ?_
 intro r3 hr3 ok
 refine S_nil ?_
 refine C_join hF (fun (v : Int × Int × (List UInt8) × (List T_scan_Pair) × (List UInt8) × Int) s' => match v with | (a16, a17, a18, a19, a21, a22) => ∃ g20 : Nat, g20 ≠ 0 ∧ OK h [(g20, .room), (i2, .cells [.int .i64 a16, .int .i64 a17, .str a18, .sl 2 (List.map c_T_scan_Pair a19) g20, .str a21, .int .i64 a22]), (i1, .cells [.int .i64 (0 : Int), .int .i64 (0 : Int), .str ([] : List UInt8), .sl 2 (List.map c_T_scan_Pair ([] : List T_scan_Pair)) 0, .str ([] : List UInt8), .int .i64 (0 : Int)])] ∧ WS s' ⟨mkSl 36 [(2, .ptr i1 0), (3, .ptr i2 0)], Hp h [(g20, .room), (i2, .cells [.int .i64 a16, .int .i64 a17, .str a18, .sl 2 (List.map c_T_scan_Pair a19) g20, .str a21, .int .i64 a22]), (i1, .cells [.int .i64 (0 : Int), .int .i64 (0 : Int), .str ([] : List UInt8), .sl 2 (List.map c_T_scan_Pair ([] : List T_scan_Pair)) 0, .str ([] : List UInt8), .int .i64 (0 : Int)])]⟩) (fun J23 hF => ?_) ?_
 ·
  refine C_seq ?_
  refine C_reg (mdl []) ?_
  refine S_faQ rfl ty_fd_30_3 ty_sz_28 rfl ?_
  refine S_ldQ rfl (p_one ty_ag_28 ty_sz_28 rfl) ?_
  refine S_lenL rfl ty_sl_28 ?_
  refine S_m (v := .int _ _) rfl ?_
  refine S_nil ?_
  refine WP_block ?_
  refine C_loop (σ := Int × Int × (List UInt8) × (List T_scan_Pair) × (List UInt8) × Int × Int) hF (fun (v : Int × Int × (List UInt8) × (List T_scan_Pair) × (List UInt8) × Int × Int) s' => match v with | (a24, a25, a26, a27, a29, a30, a31) => ∃ g28 : Nat, g28 ≠ 0 ∧ OK h [(g28, .room), (i2, .cells [.int .i64 a24, .int .i64 a25, .str a26, .sl 2 (List.map c_T_scan_Pair a27) g28, .str a29, .int .i64 a30]), (i1, .cells [.int .i64 (0 : Int), .int .i64 (0 : Int), .str ([] : List UInt8), .sl 2 (List.map c_T_scan_Pair ([] : List T_scan_Pair)) 0, .str ([] : List UInt8), .int .i64 (0 : Int)])] ∧ WS s' ⟨mkSl 36 [(2, .ptr i1 0), (3, .ptr i2 0), (18, .sl 2 (List.map c_T_scan_Pair p0.Pairs) 0), (19, .int .i64 (p0.Pairs.length : Int)), (20, .int .i64 a31)], Hp h [(g28, .room), (i2, .cells [.int .i64 a24, .int .i64 a25, .str a26, .sl 2 (List.map c_T_scan_Pair a27) g28, .str a29, .int .i64 a30]), (i1, .cells [.int .i64 (0 : Int), .int .i64 (0 : Int), .str ([] : List UInt8), .sl 2 (List.map c_T_scan_Pair ([] : List T_scan_Pair)) 0, .str ([] : List UInt8), .int .i64 (0 : Int)])]⟩) ?_ ?_
  ·
   have hwo : WO [(r3, .room), (i2, .cells [.int .i64 p0.Kind, .int .i64 p0.At, .str p0.Name, .sl 2 (List.map c_T_scan_Pair ([] : List T_scan_Pair)) r3, .str p0.Text, .int .i64 p0.Refs]), (i1, .cells [.int .i64 (0 : Int), .int .i64 (0 : Int), .str ([] : List UInt8), .snil, .str ([] : List UInt8), .int .i64 (0 : Int)])] [(r3, .room), (i2, .cells [.int .i64 p0.Kind, .int .i64 p0.At, .str p0.Name, .sl 2 (List.map c_T_scan_Pair ([] : List T_scan_Pair)) r3, .str p0.Text, .int .i64 p0.Refs]), (i1, .cells [.int .i64 (0 : Int), .int .i64 (0 : Int), .str ([] : List UInt8), .sl 2 (List.map c_T_scan_Pair ([] : List T_scan_Pair)) 0, .str ([] : List UInt8), .int .i64 (0 : Int)])] := (.keep (.keep (.weak (.cons (.refl _) (.cons (.refl _) (.cons (.refl _) (.cons (.nil _) (.cons (.refl _) (.cons (.refl _) (.nil))))))) .nil)))
   exact ⟨r3, hr3, (hwo.spec ok).1, WS.mk' (.cons (.refl _) (.cons (.refl _) (.cons (.refl _) (.cons (.refl _) (.cons (.refl _) .nil))))) ok hwo⟩
  ·
   rintro G32 hG33 rec34 ⟨a24, a25, a26, a27, a29, a30, a31⟩ s' ih35 hF ⟨g28, hg28, ok, hws⟩
   refine WP_ws hws ?_
   clear hws s'
   rw [F_lecternlaw03_doc_l0] at hF
   refine C_seq ?_
   refine C_reg (mdl []) ?_
   refine S_bin rfl rfl (ev_lss ..) ?_
   refine S_nil ?_
   refine C_seq ?_
   refine C_if (b := (decide (a31 < (p0.Pairs.length : Int)))) rfl hF (fun hb36 hF => ?_) (fun hb36 hF => ?_)
   ·
    refine WP_skip ?_
    refine C_seq ?_
    refine WP_block ?_
    refine C_seq ?_
    refine C_reg (mdl [(5, 1)]) ?_
    refine S_ix rfl rfl ty_sl_28 ty_sz_32 hF (fun x37 _ hF => ?_)
    refine S_ldQ rfl (p_agg (vs := c_T_scan_Pair x37) ty_ag_32 ty_sz_32 rfl rfl) ?_
    refine S_all1 ok rfl ty_zc_32 ?_
    intro i38 hi38 ok
    refine S_st (j := 0) (cs' := [.str x37.Name, .str x37.Value]) ok rfl rfl rfl hi38 rfl ty_sz_32 rfl rfl (fun ok => ?_)
    refine S_nil ?_
    refine C_reg (mdl [(32, 2)]) ?_
    refine S_faP rfl ty_fd_40_3 ty_sz_38 ?_
    refine S_ldP (j := 2) ok rfl rfl rfl hi2 (p_one (v := .sl 2 (List.map c_T_scan_Pair a27) g28) ty_ag_38 ty_sz_38 rfl) ?_
    refine S_faP rfl ty_fd_32_0 ty_sz_9 ?_
    refine S_ldP (j := 0) ok rfl rfl rfl hi38 (p_one (v := .str x37.Name) ty_ag_9 ty_sz_9 rfl) ?_
    refine S_faP rfl ty_fd_32_1 ty_sz_9 ?_
    refine S_ldP (j := 0) ok rfl rfl rfl hi38 (p_one (v := .str x37.Value) ty_ag_9 ty_sz_9 rfl) ?_
    refine S_bld (v := .agg (c_T_scan_Pair x37)) (b_st ty_zc_60 ty_pl_60 rfl) ?_
    refine S_lit0 (cs := [.str x37.Name, .str x37.Value]) (es := (List.map c_T_scan_Pair [x37])) rfl ty_el_38 rfl (by kernel_rfl) (by kernel_rfl) ?_
    refine S_app (j := 1) ok rfl rfl rfl rfl hg28 ty_el_38 ty_ni_38 hF ?_
    intro r39 hr39 ok hF
    refine S_faP rfl ty_fd_40_3 ty_sz_38 ?_
    refine S_st (j := 2) (cs' := [.int .i64 a24, .int .i64 a25, .str a26, .sl 2 (List.map c_T_scan_Pair (a27 ++ [x37])) r39, .str a29, .int .i64 a30]) ok rfl rfl rfl hi2 rfl ty_sz_38 rfl rfl (fun ok => ?_)
    refine S_nil ?_
    refine C_reg (mdl []) ?_
    refine S_bin rfl rfl (ev_add ..) ?_
    refine S_m (v := .int _ _) rfl ?_
    refine S_nil ?_
    refine ih35 (a24, a25, a26, (a27 ++ [x37]), a29, a30, (IntKind.wrap .i64 (a31 + (1 : Int)))) _ hF ?_
    have hwo : WO [(i38, .cells [.str x37.Name, .str x37.Value]), (r39, .room), (i2, .cells [.int .i64 a24, .int .i64 a25, .str a26, .sl 2 (List.map c_T_scan_Pair (a27 ++ [x37])) r39, .str a29, .int .i64 a30]), (i1, .cells [.int .i64 (0 : Int), .int .i64 (0 : Int), .str ([] : List UInt8), .sl 2 (List.map c_T_scan_Pair ([] : List T_scan_Pair)) 0, .str ([] : List UInt8), .int .i64 (0 : Int)])] [(r39, .room), (i2, .cells [.int .i64 a24, .int .i64 a25, .str a26, .sl 2 (List.map c_T_scan_Pair (a27 ++ [x37])) r39, .str a29, .int .i64 a30]), (i1, .cells [.int .i64 (0 : Int), .int .i64 (0 : Int), .str ([] : List UInt8), .sl 2 (List.map c_T_scan_Pair ([] : List T_scan_Pair)) 0, .str ([] : List UInt8), .int .i64 (0 : Int)])] := (.drop (.keep (.keep (.keep .nil))))
    exact ⟨r39, hr39, (hwo.spec ok).1, WS.mk' (.cons (.refl _) (.cons (.refl _) (.cons (.refl _) (.cons (.refl _) (.cons (.refl _) .nil))))) ok hwo⟩
   ·
    refine WP_exit ?_
    simp only [Exit.sel, Exit.blk, Exit.jmp, if_true, if_false, reduceIte, Nat.reduceEqDiff, Nat.succ_ne_zero, Nat.zero_ne_one, Nat.one_ne_zero]
    replace hF := hG33 _ (F_some hF)
    have hwo : WO [(g28, .room), (i2, .cells [.int .i64 a24, .int .i64 a25, .str a26, .sl 2 (List.map c_T_scan_Pair a27) g28, .str a29, .int .i64 a30]), (i1, .cells [.int .i64 (0 : Int), .int .i64 (0 : Int), .str ([] : List UInt8), .sl 2 (List.map c_T_scan_Pair ([] : List T_scan_Pair)) 0, .str ([] : List UInt8), .int .i64 (0 : Int)])] [(g28, .room), (i2, .cells [.int .i64 a24, .int .i64 a25, .str a26, .sl 2 (List.map c_T_scan_Pair a27) g28, .str a29, .int .i64 a30]), (i1, .cells [.int .i64 (0 : Int), .int .i64 (0 : Int), .str ([] : List UInt8), .sl 2 (List.map c_T_scan_Pair ([] : List T_scan_Pair)) 0, .str ([] : List UInt8), .int .i64 (0 : Int)])] := (.keep (.keep (.keep .nil)))
    exact ⟨(a24, a25, a26, a27, a29, a30), hF, g28, hg28, (hwo.spec ok).1, WS.mk' (.cons (.refl _) (.cons (.refl _) .nil)) ok hwo⟩
 ·
  rintro ⟨a16, a17, a18, a19, a21, a22⟩ s' hF ⟨g20, hg20, ok, hws⟩
  refine WP_ws hws ?_
  clear hws s'
  refine C_seq ?_
  refine C_reg (mdl []) ?_
  refine S_ldP (j := 1) ok rfl rfl rfl hi2 (p_agg (vs := [.int .i64 a16, .int .i64 a17, .str a18, .sl 2 (List.map c_T_scan_Pair a19) g20, .str a21, .int .i64 a22]) ty_ag_40 ty_sz_40 rfl rfl) ?_
  refine S_one 35 (v := .agg (c_T_lecternref03_Token (⟨a16, a17, a18, a19, a21, a22⟩ : T_lecternref03_Token))) (.aggC (.cons (.refl _) (.cons (.refl _) (.cons (.refl _) (.cons (.zero _ _ _) (.cons (.refl _) (.cons (.refl _) (.nil)))))))) ?_
  refine S_st (j := 2) (cs' := [.int .i64 (⟨a16, a17, a18, a19, a21, a22⟩ : T_lecternref03_Token).Kind, .int .i64 (⟨a16, a17, a18, a19, a21, a22⟩ : T_lecternref03_Token).At, .str (⟨a16, a17, a18, a19, a21, a22⟩ : T_lecternref03_Token).Name, .sl 2 (List.map c_T_scan_Pair (⟨a16, a17, a18, a19, a21, a22⟩ : T_lecternref03_Token).Pairs) 0, .str (⟨a16, a17, a18, a19, a21, a22⟩ : T_lecternref03_Token).Text, .int .i64 (⟨a16, a17, a18, a19, a21, a22⟩ : T_lecternref03_Token).Refs]) ok rfl rfl rfl hi1 rfl ty_sz_40 rfl rfl (fun ok => ?_)
  refine S_nil ?_
  refine WP_ret ?_
  repeat (first | with_reducible refine Exit.sel_ret ?_ | with_reducible refine Exit.blk_ret ?_ | with_reducible refine Exit.jmp_ret ?_)
  refine C_ret (fn := Tryd.f13) rfl (.cell rfl (ld_ptr (j := 2) ok rfl hi1 (p_agg (vs := [.int .i64 (⟨a16, a17, a18, a19, a21, a22⟩ : T_lecternref03_Token).Kind, .int .i64 (⟨a16, a17, a18, a19, a21, a22⟩ : T_lecternref03_Token).At, .str (⟨a16, a17, a18, a19, a21, a22⟩ : T_lecternref03_Token).Name, .sl 2 (List.map c_T_scan_Pair (⟨a16, a17, a18, a19, a21, a22⟩ : T_lecternref03_Token).Pairs) 0, .str (⟨a16, a17, a18, a19, a21, a22⟩ : T_lecternref03_Token).Text, .int .i64 (⟨a16, a17, a18, a19, a21, a22⟩ : T_lecternref03_Token).Refs]) ty_ag_40 ty_sz_40 rfl rfl)) .nil) ?_
  exact ⟨_, _, (.aggC (.cons (.refl _) (.cons (.refl _) (.cons (.refl _) (.cons (.refl _) (.cons (.refl _) (.cons (.refl _) (.nil)))))))), ok.wh, _, F_some hF, rfl, rfl⟩
theorem F_lecternlaw03_doc_ok {β : Type} {f : T_lecternref03_Token → Option β} {G : β → Prop} {R : D → Heap → Prop} {p0 : T_scan_Token} (h : Heap) (hF : OptP ((F_lecternlaw03_doc p0).bind f) G) (hk : ∀ r, F_lecternlaw03_doc p0 = some r → OptP (f r) G → R (.agg (c_T_lecternref03_Token r)) h) : CallsA Tryd.prog 13 [.agg (c_T_scan_Token p0)] h R := by
 obtain ⟨r0, hr, hF⟩ := F_bind hF
 refine (F_lecternlaw03_doc_w (G := fun r => r = r0) p0 h ⟨r0, hr, rfl⟩).mono ?_
 rintro _ _ ⟨r, rfl, rfl, rfl⟩
 exact hk _ hr hF
theorem F_lecternref03_Same_w (p0 : T_lecternref03_Token) (p1 : T_lecternref03_Token) {G : Bool → Prop} (h : Heap) (hF : OptP (F_lecternref03_Same p0 p1) G) : CallsA Tryd.prog 14 [.agg (c_T_lecternref03_Token p0), .agg (c_T_lecternref03_Token p1)] h fun d h' => ∃ r, G r ∧ d = .bool r ∧ h' = h := by
 refine CallsA.ret ?_
 refine C_body Tryd.func14 rfl en_14 Tryd.ntmps14 rfl (fun ok => ?_)
 rw [F_lecternref03_Same] at hF
 refine C_seq ?_
 refine C_reg (mdl []) ?_
 refine S_box0 rfl rfl rfl rfl ?_
 refine S_box0 rfl rfl rfl rfl ?_
 refine S_a (v := .bool _) rfl ?_
 refine S_nil ?_
 refine C_seq ?_
 refine C_seq ?_
 refine C_reg (mdl []) ?_
 refine S_faQ rfl ty_fd_40_0 ty_sz_3 rfl ?_
 refine S_ldQ rfl (p_one ty_ag_3 ty_sz_3 rfl) ?_
 refine S_faQ rfl ty_fd_40_0 ty_sz_3 rfl ?_
 refine S_ldQ rfl (p_one ty_ag_3 ty_sz_3 rfl) ?_
 refine S_bin rfl rfl (ev_neq ..) ?_
 refine S_m (v := .bool _) rfl ?_
 refine S_two (b := (p0.Kind != p1.Kind)) 6 17 (.bool ((p0.Kind != p1.Kind) || (!(p0.Name == p1.Name)))) (fun hb1 => ?_) (fun hb1 => ?_) ?_
 ·
  refine S_off rfl rfl hb1 ?_
  refine S_offD ?_
  refine S_off rfl rfl hb1 ?_
  refine S_offD ?_
  refine S_off rfl rfl hb1 ?_
  refine S_offD ?_
  refine S_off rfl rfl hb1 ?_
  refine S_offD ?_
  refine S_off rfl rfl hb1 ?_
  refine S_offD ?_
  refine S_pickT (v := .bool _) rfl hb1 rfl ?_
  refine S_nil ?_
  refine .hd (or_t hb1) ?_
  repeat (first | with_reducible exact WS.refl _ | refine WS.add ?_ rfl | exact WS.refl _)
 ·
  refine S_on rfl rfl hb1 ?_
  refine S_in ?_
  refine S_faQ rfl ty_fd_40_2 ty_sz_9 rfl ?_
  refine S_nil ?_
  refine S_on rfl rfl hb1 ?_
  refine S_in ?_
  refine S_ldQ rfl (p_one ty_ag_9 ty_sz_9 rfl) ?_
  refine S_nil ?_
  refine S_on rfl rfl hb1 ?_
  refine S_in ?_
  refine S_faQ rfl ty_fd_40_2 ty_sz_9 rfl ?_
  refine S_nil ?_
  refine S_on rfl rfl hb1 ?_
  refine S_in ?_
  refine S_ldQ rfl (p_one ty_ag_9 ty_sz_9 rfl) ?_
  refine S_nil ?_
  refine S_on rfl rfl hb1 ?_
  refine S_in ?_
  refine S_bin rfl rfl e_sneq ?_
  refine S_nil ?_
  refine S_pickF (v := .bool _) rfl hb1 rfl ?_
  refine S_nil ?_
  refine .hd (or_f hb1) ?_
  repeat (first | with_reducible exact WS.refl _ | refine WS.add ?_ rfl | exact WS.refl _)
 refine S_m (v := .bool _) rfl ?_
 refine S_two (b := ((p0.Kind != p1.Kind) || (!(p0.Name == p1.Name)))) 6 24 (.bool (((p0.Kind != p1.Kind) || (!(p0.Name == p1.Name))) || (!(p0.Text == p1.Text)))) (fun hb2 => ?_) (fun hb2 => ?_) ?_
 ·
  refine S_off rfl rfl hb2 ?_
  refine S_offD ?_
  refine S_off rfl rfl hb2 ?_
  refine S_offD ?_
  refine S_off rfl rfl hb2 ?_
  refine S_offD ?_
  refine S_off rfl rfl hb2 ?_
  refine S_offD ?_
  refine S_off rfl rfl hb2 ?_
  refine S_offD ?_
  refine S_pickT (v := .bool _) rfl hb2 rfl ?_
  refine S_nil ?_
  refine .hd (or_t hb2) ?_
  repeat (first | with_reducible exact WS.refl _ | refine WS.add ?_ rfl | exact WS.refl _)
 ·
  refine S_on rfl rfl hb2 ?_
  refine S_in ?_
  refine S_faQ rfl ty_fd_40_4 ty_sz_9 rfl ?_
  refine S_nil ?_
  refine S_on rfl rfl hb2 ?_
  refine S_in ?_
  refine S_ldQ rfl (p_one ty_ag_9 ty_sz_9 rfl) ?_
  refine S_nil ?_
  refine S_on rfl rfl hb2 ?_
  refine S_in ?_
  refine S_faQ rfl ty_fd_40_4 ty_sz_9 rfl ?_
  refine S_nil ?_
  refine S_on rfl rfl hb2 ?_
  refine S_in ?_
  refine S_ldQ rfl (p_one ty_ag_9 ty_sz_9 rfl) ?_
  refine S_nil ?_
  refine S_on rfl rfl hb2 ?_
  refine S_in ?_
  refine S_bin rfl rfl e_sneq ?_
  refine S_nil ?_
  refine S_pickF (v := .bool _) rfl hb2 rfl ?_
  refine S_nil ?_
  refine .hd (or_f hb2) ?_
  repeat (first | with_reducible exact WS.refl _ | refine WS.add ?_ rfl | exact WS.refl _)
 refine S_m (v := .bool _) rfl ?_
 refine S_two (b := (((p0.Kind != p1.Kind) || (!(p0.Name == p1.Name))) || (!(p0.Text == p1.Text)))) 6 31 (.bool ((((p0.Kind != p1.Kind) || (!(p0.Name == p1.Name))) || (!(p0.Text == p1.Text))) || (p0.Refs != p1.Refs))) (fun hb3 => ?_) (fun hb3 => ?_) ?_
 ·
  refine S_off rfl rfl hb3 ?_
  refine S_offD ?_
  refine S_off rfl rfl hb3 ?_
  refine S_offD ?_
  refine S_off rfl rfl hb3 ?_
  refine S_offD ?_
  refine S_off rfl rfl hb3 ?_
  refine S_offD ?_
  refine S_off rfl rfl hb3 ?_
  refine S_offD ?_
  refine S_pickT (v := .bool _) rfl hb3 rfl ?_
  refine S_nil ?_
  refine .hd (or_t hb3) ?_
  repeat (first | with_reducible exact WS.refl _ | refine WS.add ?_ rfl | exact WS.refl _)
 ·
  refine S_on rfl rfl hb3 ?_
  refine S_in ?_
  refine S_faQ rfl ty_fd_40_5 ty_sz_3 rfl ?_
  refine S_nil ?_
  refine S_on rfl rfl hb3 ?_
  refine S_in ?_
  refine S_ldQ rfl (p_one ty_ag_3 ty_sz_3 rfl) ?_
  refine S_nil ?_
  refine S_on rfl rfl hb3 ?_
  refine S_in ?_
  refine S_faQ rfl ty_fd_40_5 ty_sz_3 rfl ?_
  refine S_nil ?_
  refine S_on rfl rfl hb3 ?_
  refine S_in ?_
  refine S_ldQ rfl (p_one ty_ag_3 ty_sz_3 rfl) ?_
  refine S_nil ?_
  refine S_on rfl rfl hb3 ?_
  refine S_in ?_
  refine S_bin rfl rfl (ev_neq ..) ?_
  refine S_nil ?_
  refine S_pickF (v := .bool _) rfl hb3 rfl ?_
  refine S_nil ?_
  refine .hd (or_f hb3) ?_
  repeat (first | with_reducible exact WS.refl _ | refine WS.add ?_ rfl | exact WS.refl _)
 refine S_m (v := .bool _) rfl ?_
 refine S_two (b := ((((p0.Kind != p1.Kind) || (!(p0.Name == p1.Name))) || (!(p0.Text == p1.Text))) || (p0.Refs != p1.Refs))) 8 40 (.bool (((((p0.Kind != p1.Kind) || (!(p0.Name == p1.Name))) || (!(p0.Text == p1.Text))) || (p0.Refs != p1.Refs)) || ((p0.Pairs.length : Int) != (p1.Pairs.length : Int)))) (fun hb4 => ?_) (fun hb4 => ?_) ?_
 ·
  refine S_off rfl rfl hb4 ?_
  refine S_offD ?_
  refine S_off rfl rfl hb4 ?_
  refine S_offD ?_
  refine S_off rfl rfl hb4 ?_
  refine S_offD ?_
  refine S_off rfl rfl hb4 ?_
  refine S_offD ?_
  refine S_off rfl rfl hb4 ?_
  refine S_offD ?_
  refine S_off rfl rfl hb4 ?_
  refine S_offD ?_
  refine S_off rfl rfl hb4 ?_
  refine S_offD ?_
  refine S_pickT (v := .bool _) rfl hb4 rfl ?_
  refine S_nil ?_
  refine .hd (or_t hb4) ?_
  repeat (first | with_reducible exact WS.refl _ | refine WS.add ?_ rfl | exact WS.refl _)
 ·
  refine S_on rfl rfl hb4 ?_
  refine S_in ?_
  refine S_faQ rfl ty_fd_40_3 ty_sz_38 rfl ?_
  refine S_nil ?_
  refine S_on rfl rfl hb4 ?_
  refine S_in ?_
  refine S_ldQ rfl (p_one ty_ag_38 ty_sz_38 rfl) ?_
  refine S_nil ?_
  refine S_on rfl rfl hb4 ?_
  refine S_in ?_
  refine S_lenL rfl ty_sl_38 ?_
  refine S_nil ?_
  refine S_on rfl rfl hb4 ?_
  refine S_in ?_
  refine S_faQ rfl ty_fd_40_3 ty_sz_38 rfl ?_
  refine S_nil ?_
  refine S_on rfl rfl hb4 ?_
  refine S_in ?_
  refine S_ldQ rfl (p_one ty_ag_38 ty_sz_38 rfl) ?_
  refine S_nil ?_
  refine S_on rfl rfl hb4 ?_
  refine S_in ?_
  refine S_lenL rfl ty_sl_38 ?_
  refine S_nil ?_
  refine S_on rfl rfl hb4 ?_
  refine S_in ?_
  refine S_bin rfl rfl (ev_neq ..) ?_
  refine S_nil ?_
  refine S_pickF (v := .bool _) rfl hb4 rfl ?_
  refine S_nil ?_
  refine .hd (or_f hb4) ?_
  repeat (first | with_reducible exact WS.refl _ | refine WS.add ?_ rfl | exact WS.refl _)
 refine S_nil ?_
 refine C_if (b := (((((p0.Kind != p1.Kind) || (!(p0.Name == p1.Name))) || (!(p0.Text == p1.Text))) || (p0.Refs != p1.Refs)) || ((p0.Pairs.length : Int) != (p1.Pairs.length : Int)))) rfl hF (fun hb5 hF => ?_) (fun hb5 hF => ?_)
 ·
  refine C_seq ?_
  refine C_reg (mdl []) ?_
  refine S_a (v := .bool _) rfl ?_
  refine S_nil ?_
  refine WP_ret ?_
  repeat (first | with_reducible refine Exit.sel_ret ?_ | with_reducible refine Exit.blk_ret ?_ | with_reducible refine Exit.jmp_ret ?_)
  refine C_ret (fn := Tryd.f14) rfl (.tmp (v := .bool false) rfl .nil) ?_
  exact ⟨_, _, (.refl _), ok.wh, _, F_some hF, rfl, rfl⟩
 ·
  refine WP_skip ?_
  refine C_join hF (fun (_ : Unit) s' => OK h [] ∧ WS s' ⟨mkSl 59 [], Hp h []⟩) (fun J11 hF => ?_) ?_
  ·
   refine C_seq ?_
   refine C_reg (mdl []) ?_
   refine S_faQ rfl ty_fd_40_3 ty_sz_38 rfl ?_
   refine S_ldQ rfl (p_one ty_ag_38 ty_sz_38 rfl) ?_
   refine S_lenL rfl ty_sl_38 ?_
   refine S_m (v := .int _ _) rfl ?_
   refine S_nil ?_
   refine WP_block ?_
   refine C_loop (σ := Int) hF (fun (a12 : Int) s' => OK h [] ∧ WS s' ⟨mkSl 59 [(2, .iptr (c_T_lecternref03_Token p0)), (3, .iptr (c_T_lecternref03_Token p1)), (43, .int .i64 (p0.Pairs.length : Int)), (44, .int .i64 a12)], Hp h []⟩) ?_ ?_
   ·
    have hwo : WO [] [] := .nil
    exact ⟨(hwo.spec ok).1, WS.mk' (.cons (.refl _) (.cons (.refl _) (.cons (.refl _) (.cons (.refl _) .nil)))) ok hwo⟩
   ·
    rintro G13 hG14 rec15 a12 s' ih16 hF ⟨ok, hws⟩
    refine WP_ws hws ?_
    clear hws s'
    rw [F_lecternref03_Same_l0] at hF
    refine C_seq ?_
    refine C_reg (mdl []) ?_
    refine S_bin rfl rfl (ev_lss ..) ?_
    refine S_nil ?_
    refine C_seq ?_
    refine C_if (b := (decide (a12 < (p0.Pairs.length : Int)))) rfl hF (fun hb17 hF => ?_) (fun hb17 hF => ?_)
    ·
     refine WP_skip ?_
     refine C_seq ?_
     refine WP_block ?_
     refine C_seq ?_
     refine C_reg (mdl []) ?_
     refine S_m (v := .int _ _) rfl ?_
     refine S_a (v := .int _ _) rfl ?_
     refine S_nil ?_
     refine C_seq ?_
     refine C_drw (mdl [(48, 3), (51, 3), (53, 3), (56, 3)]) (by kernel_rfl) (by kernel_rfl) ?_
     refine S_faQ rfl ty_fd_40_3 ty_sz_38 rfl ?_
     refine S_ldQ rfl (p_one ty_ag_38 ty_sz_38 rfl) ?_
     refine S_m (v := .int _ _) rfl ?_
     refine S_ix rfl rfl ty_sl_38 ty_sz_60 hF (fun x18 _ hF => ?_)
     refine S_ldQ rfl (p_agg (vs := c_T_scan_Pair x18) ty_ag_60 ty_sz_60 rfl rfl) ?_
     refine S_faQ rfl ty_fd_40_3 ty_sz_38 rfl ?_
     refine S_ldQ rfl (p_one ty_ag_38 ty_sz_38 rfl) ?_
     refine S_m (v := .int _ _) rfl ?_
     refine S_ix rfl rfl ty_sl_38 ty_sz_60 hF (fun x19 _ hF => ?_)
     refine S_ldQ rfl (p_agg (vs := c_T_scan_Pair x19) ty_ag_60 ty_sz_60 rfl rfl) ?_
     refine S_bin rfl rfl (e_aggn (b := ((x18.Name == x19.Name) && ((x18.Value == x19.Value) && true))) ty_qg_60 ty_sf_60 (by simp only [c_T_scan_Pair, ev_eqF_cons, ev_eqF_nil, ev_part, ty_sf_60, ty_qg_60, ty_ag_9, ty_sz_9, ty_st_9, ty_ag_9, ty_sz_9, ty_st_9, ev_eq_int, ev_eq_str, ev_eq_bool, ev_eq_agg, ev_eq_int2, ev_eq_str2, ev_eq_bool2, List.drop_zero, List.drop_succ_cons, List.length_cons, List.length_nil, List.take_succ_cons, List.take_zero, Option.isSome_some, if_true, Option.bind_some, Option.map_some, Nat.reduceAdd, Nat.reduceLeDiff])) ?_
     refine S_nil ?_
     refine C_if (b := (!((x18.Name == x19.Name) && ((x18.Value == x19.Value) && true)))) rfl hF (fun hb20 hF => ?_) (fun hb20 hF => ?_)
     ·
      refine C_seq ?_
      refine C_reg (mdl []) ?_
      refine S_a (v := .bool _) rfl ?_
      refine S_nil ?_
      refine WP_ret ?_
      replace hF := hG14 _ (F_some hF)
      repeat (first | with_reducible refine Exit.sel_ret ?_ | with_reducible refine Exit.blk_ret ?_ | with_reducible refine Exit.jmp_ret ?_)
      refine C_ret (fn := Tryd.f14) rfl (.tmp (v := .bool false) rfl .nil) ?_
      exact ⟨_, _, (.refl _), ok.wh, _, F_some hF, rfl, rfl⟩
     ·
      refine WP_skip ?_
      refine C_reg (mdl []) ?_
      refine S_bin rfl rfl (ev_add ..) ?_
      refine S_m (v := .int _ _) rfl ?_
      refine S_nil ?_
      refine ih16 (IntKind.wrap .i64 (a12 + (1 : Int))) _ hF ?_
      have hwo : WO [] [] := .nil
      exact ⟨(hwo.spec ok).1, WS.mk' (.cons (.refl _) (.cons (.refl _) (.cons (.refl _) (.cons (.refl _) .nil)))) ok hwo⟩
    ·
     refine WP_exit ?_
     simp only [Exit.sel, Exit.blk, Exit.jmp, if_true, if_false, reduceIte, Nat.reduceEqDiff, Nat.succ_ne_zero, Nat.zero_ne_one, Nat.one_ne_zero]
     replace hF := hG14 _ (F_some hF)
     have hwo : WO [] [] := .nil
     exact ⟨(), hF, (hwo.spec ok).1, WS.mk' .nil ok hwo⟩
  ·
   rintro ⟨⟩ s' hF ⟨ok, hws⟩
   refine WP_ws hws ?_
   clear hws s'
   refine C_seq ?_
   refine C_reg (mdl []) ?_
   refine S_a (v := .bool _) rfl ?_
   refine S_nil ?_
   refine WP_ret ?_
   repeat (first | with_reducible refine Exit.sel_ret ?_ | with_reducible refine Exit.blk_ret ?_ | with_reducible refine Exit.jmp_ret ?_)
   refine C_ret (fn := Tryd.f14) rfl (.tmp (v := .bool true) rfl .nil) ?_
   exact ⟨_, _, (.refl _), ok.wh, _, F_some hF, rfl, rfl⟩
theorem F_lecternref03_Same_ok {β : Type} {f : Bool → Option β} {G : β → Prop} {R : D → Heap → Prop} {p0 : T_lecternref03_Token} {p1 : T_lecternref03_Token} (h : Heap) (hF : OptP ((F_lecternref03_Same p0 p1).bind f) G) (hk : ∀ r, F_lecternref03_Same p0 p1 = some r → OptP (f r) G → R (.bool r) h) : CallsA Tryd.prog 14 [.agg (c_T_lecternref03_Token p0), .agg (c_T_lecternref03_Token p1)] h R := by
 obtain ⟨r0, hr, hF⟩ := F_bind hF
 refine (F_lecternref03_Same_w (G := fun r => r = r0) p0 p1 h ⟨r0, hr, rfl⟩).mono ?_
 rintro _ _ ⟨r, rfl, rfl, rfl⟩
 exact hk _ hr hF
theorem F_lecternlaw03_ScanSpaces_w (p0 : List UInt8) (p1 : List UInt8) (p2 : List UInt8) (p3 : Int) {G : Bool → Prop} (h : Heap) (hF : OptP (F_lecternlaw03_ScanSpaces p0 p1 p2 p3) G) : CallsA Tryd.prog 6 [.str p0, .str p1, .str p2, .int .u8 p3] h fun d h' => ∃ r, G r ∧ d = .bool r := by
 refine CallsA.ret ?_
 refine C_body Tryd.func6 rfl en_6 Tryd.ntmps6 rfl (fun ok => ?_)
 rw [F_lecternlaw03_ScanSpaces] at hF
 refine C_seq ?_
 refine C_reg (mdl []) ?_
 refine S_a (v := .bool _) rfl ?_
 refine S_nil ?_
 refine C_seq ?_
 refine C_seq ?_
 refine C_reg (mdl []) ?_
 refine S_call (F_lecternlaw03_awake_ok _ hF fun x1 _ hF => ?_) (.nil)
 refine S_un rfl (ev_not _) ?_
 refine S_nil ?_
 refine C_if (b := (!x1)) rfl hF (fun hb2 hF => ?_) (fun hb2 hF => ?_)
 ·
  refine C_seq ?_
  refine C_reg (mdl []) ?_
  refine S_a (v := .bool _) rfl ?_
  refine S_nil ?_
  refine WP_ret ?_
  repeat (first | with_reducible refine Exit.sel_ret ?_ | with_reducible refine Exit.blk_ret ?_ | with_reducible refine Exit.jmp_ret ?_)
  refine C_ret (fn := Tryd.f6) rfl (.tmp (v := .bool false) rfl .nil) ?_
  exact ⟨_, _, (.refl _), WH.refl _, _, F_some hF, rfl⟩
 ·
  refine WP_skip ?_
  refine C_seq ?_
  refine C_reg (mdl []) ?_
  refine S_m (v := .str _) rfl ?_
  refine S_cat rfl rfl hF (fun hF => ?_)
  refine S_cat rfl rfl hF (fun hF => ?_)
  refine S_m (v := .str _) rfl ?_
  refine S_cat rfl rfl hF (fun hF => ?_)
  refine S_cat rfl rfl hF (fun hF => ?_)
  refine S_m (v := .str _) rfl ?_
  refine S_cat rfl rfl hF (fun hF => ?_)
  refine S_cat rfl rfl hF (fun hF => ?_)
  refine S_a (v := .str _) rfl ?_
  refine S_nil ?_
  refine C_seq ?_
  refine C_reg (mdl []) ?_
  refine S_bld (v := .agg (List.map D.str ([([32] : List UInt8), ([10] : List UInt8), ([13, 10] : List UInt8), ([9, 32] : List UInt8), ([32, 32] : List UInt8)] : List (List UInt8)))) (b_arr ty_zc_45 ty_pl_45 ty_ar_45 ty_sz_9 rfl) ?_
  refine S_m (v := .int _ _) rfl ?_
  refine S_bin rfl rfl (e_rem rfl) ?_
  refine S_ixN (g := D.str) rfl rfl ty_ar_45 ty_sz_9 ty_ag_9 hF (fun x3 _ hF => ?_)
  refine S_a (v := .str _) rfl ?_
  refine S_nil ?_
  refine C_seq ?_
  refine C_reg (mdl []) ?_
  refine S_m (v := .str _) rfl ?_
  refine S_cat rfl rfl hF (fun hF => ?_)
  refine S_m (v := .str _) rfl ?_
  refine S_cat rfl rfl hF (fun hF => ?_)
  refine S_m (v := .str _) rfl ?_
  refine S_cat rfl rfl hF (fun hF => ?_)
  refine S_m (v := .str _) rfl ?_
  refine S_cat rfl rfl hF (fun hF => ?_)
  refine S_cat rfl rfl hF (fun hF => ?_)
  refine S_m (v := .str _) rfl ?_
  refine S_cat rfl rfl hF (fun hF => ?_)
  refine S_cat rfl rfl hF (fun hF => ?_)
  refine S_m (v := .str _) rfl ?_
  refine S_cat rfl rfl hF (fun hF => ?_)
  refine S_cat rfl rfl hF (fun hF => ?_)
  refine S_m (v := .str _) rfl ?_
  refine S_cat rfl rfl hF (fun hF => ?_)
  refine S_cat rfl rfl hF (fun hF => ?_)
  refine S_a (v := .str _) rfl ?_
  refine S_nil ?_
  refine C_seq ?_
  refine C_reg (mdl []) ?_
  refine S_m (v := .str _) rfl ?_
  refine S_byt0 rfl rfl ty_sl_22 ty_st_9 ty_ki_5 ?_
  refine S_call (F_scan_All_ok _ hF fun x4 _ hF => ?_) (.cons (.refl _) (.nil))
  refine S_m (v := .tup _) rfl ?_
  refine S_ext rfl rfl ?_
  refine S_ext rfl rfl ?_
  refine S_ext rfl rfl ?_
  refine S_a (v := .sl _ _ _) rfl ?_
  refine S_a (v := .int _ _) rfl ?_
  refine S_a (v := .int _ _) rfl ?_
  refine S_nil ?_
  refine C_seq ?_
  refine C_reg (mdl []) ?_
  refine S_m (v := .str _) rfl ?_
  refine S_byt0 rfl rfl ty_sl_22 ty_st_9 ty_ki_5 ?_
  refine S_call (F_scan_All_ok _ hF fun x5 _ hF => ?_) (.cons (.refl _) (.nil))
  refine S_m (v := .tup _) rfl ?_
  refine S_ext rfl rfl ?_
  refine S_ext rfl rfl ?_
  refine S_ext rfl rfl ?_
  refine S_a (v := .sl _ _ _) rfl ?_
  refine S_a (v := .int _ _) rfl ?_
  refine S_a (v := .int _ _) rfl ?_
  refine S_nil ?_
  refine C_seq ?_
  refine C_seq ?_
  refine C_reg (mdl []) ?_
  refine S_m (v := .int _ _) rfl ?_
  refine S_bin rfl rfl (ev_neq ..) ?_
  refine S_m (v := .bool _) rfl ?_
  refine S_two (b := (x4.2.2 != (0 : Int))) 4 71 (.bool ((x4.2.2 != (0 : Int)) || ((x4.1.length : Int) != (1 : Int)))) (fun hb6 => ?_) (fun hb6 => ?_) ?_
  ·
   refine S_off rfl rfl hb6 ?_
   refine S_offD ?_
   refine S_off rfl rfl hb6 ?_
   refine S_offD ?_
   refine S_off rfl rfl hb6 ?_
   refine S_offD ?_
   refine S_pickT (v := .bool _) rfl hb6 rfl ?_
   refine S_nil ?_
   refine .hd (or_t hb6) ?_
   repeat (first | with_reducible exact WS.refl _ | refine WS.add ?_ rfl | exact WS.refl _)
  ·
   refine S_on rfl rfl hb6 ?_
   refine S_in ?_
   refine S_m (v := .sl _ _ _) rfl ?_
   refine S_nil ?_
   refine S_on rfl rfl hb6 ?_
   refine S_in ?_
   refine S_lenL rfl ty_sl_24 ?_
   refine S_nil ?_
   refine S_on rfl rfl hb6 ?_
   refine S_in ?_
   refine S_bin rfl rfl (ev_neq ..) ?_
   refine S_nil ?_
   refine S_pickF (v := .bool _) rfl hb6 rfl ?_
   refine S_nil ?_
   refine .hd (or_f hb6) ?_
   repeat (first | with_reducible exact WS.refl _ | refine WS.add ?_ rfl | exact WS.refl _)
  refine S_m (v := .bool _) rfl ?_
  refine S_twoJ 7 79 hF (fun J8 hb7 hF => ?_) (fun J8 hb7 hF => ?_) (fun v9 hF => ?_)
  ·
   refine S_off rfl rfl hb7 ?_
   refine S_offD ?_
   refine S_off rfl rfl hb7 ?_
   refine S_offD ?_
   refine S_off rfl rfl hb7 ?_
   refine S_offD ?_
   refine S_off rfl rfl hb7 ?_
   refine S_offD ?_
   refine S_off rfl rfl hb7 ?_
   refine S_offD ?_
   refine S_off rfl rfl hb7 ?_
   refine S_offD ?_
   refine S_pickT (v := .bool _) rfl hb7 rfl ?_
   refine S_nil ?_
   refine ⟨_, hF, .hd (.refl _) ?_⟩
   repeat (first | with_reducible exact WS.refl _ | refine WS.add ?_ rfl | exact WS.refl _)
  ·
   refine S_on rfl rfl hb7 ?_
   refine S_in ?_
   refine S_m (v := .sl _ _ _) rfl ?_
   refine S_nil ?_
   refine S_on rfl rfl hb7 ?_
   refine S_in ?_
   refine S_ix rfl rfl ty_sl_24 ty_sz_30 hF (fun x10 _ hF => ?_)
   refine S_nil ?_
   refine S_on rfl rfl hb7 ?_
   refine S_in ?_
   refine S_faQ rfl ty_fd_30_3 ty_sz_28 rfl ?_
   refine S_nil ?_
   refine S_on rfl rfl hb7 ?_
   refine S_in ?_
   refine S_ldQ rfl (p_one ty_ag_28 ty_sz_28 rfl) ?_
   refine S_nil ?_
   refine S_on rfl rfl hb7 ?_
   refine S_in ?_
   refine S_lenL rfl ty_sl_28 ?_
   refine S_nil ?_
   refine S_on rfl rfl hb7 ?_
   refine S_in ?_
   refine S_bin rfl rfl (ev_neq ..) ?_
   refine S_nil ?_
   refine S_pickF (v := .bool _) rfl hb7 rfl ?_
   refine S_nil ?_
   refine ⟨_, hF, .hd (.refl _) ?_⟩
   repeat (first | with_reducible exact WS.refl _ | refine WS.add ?_ rfl | exact WS.refl _)
  ·
   refine S_m (v := .bool _) rfl ?_
   refine S_twoJ 6 86 hF (fun J12 hb11 hF => ?_) (fun J12 hb11 hF => ?_) (fun v13 hF => ?_)
   ·
    refine S_off rfl rfl hb11 ?_
    refine S_offD ?_
    refine S_off rfl rfl hb11 ?_
    refine S_offD ?_
    refine S_off rfl rfl hb11 ?_
    refine S_offD ?_
    refine S_off rfl rfl hb11 ?_
    refine S_offD ?_
    refine S_off rfl rfl hb11 ?_
    refine S_offD ?_
    refine S_pickT (v := .bool _) rfl hb11 rfl ?_
    refine S_nil ?_
    refine ⟨_, hF, .hd (.refl _) ?_⟩
    repeat (first | with_reducible exact WS.refl _ | refine WS.add ?_ rfl | exact WS.refl _)
   ·
    refine S_on rfl rfl hb11 ?_
    refine S_in ?_
    refine S_m (v := .sl _ _ _) rfl ?_
    refine S_nil ?_
    refine S_on rfl rfl hb11 ?_
    refine S_in ?_
    refine S_ix rfl rfl ty_sl_24 ty_sz_30 hF (fun x14 _ hF => ?_)
    refine S_nil ?_
    refine S_on rfl rfl hb11 ?_
    refine S_in ?_
    refine S_faQ rfl ty_fd_30_0 ty_sz_3 rfl ?_
    refine S_nil ?_
    refine S_on rfl rfl hb11 ?_
    refine S_in ?_
    refine S_ldQ rfl (p_one ty_ag_3 ty_sz_3 rfl) ?_
    refine S_nil ?_
    refine S_on rfl rfl hb11 ?_
    refine S_in ?_
    refine S_bin rfl rfl (ev_neq ..) ?_
    refine S_nil ?_
    refine S_pickF (v := .bool _) rfl hb11 rfl ?_
    refine S_nil ?_
    refine ⟨_, hF, .hd (.refl _) ?_⟩
    repeat (first | with_reducible exact WS.refl _ | refine WS.add ?_ rfl | exact WS.refl _)
   ·
    refine S_m (v := .bool _) rfl ?_
    refine S_twoJ 10 97 hF (fun J16 hb15 hF => ?_) (fun J16 hb15 hF => ?_) (fun v17 hF => ?_)
    ·
     refine S_off rfl rfl hb15 ?_
     refine S_offD ?_
     refine S_off rfl rfl hb15 ?_
     refine S_offD ?_
     refine S_off rfl rfl hb15 ?_
     refine S_offD ?_
     refine S_off rfl rfl hb15 ?_
     refine S_offD ?_
     refine S_off rfl rfl hb15 ?_
     refine S_offD ?_
     refine S_off rfl rfl hb15 ?_
     refine S_offD ?_
     refine S_off rfl rfl hb15 ?_
     refine S_offD ?_
     refine S_off rfl rfl hb15 ?_
     refine S_offD ?_
     refine S_off rfl rfl hb15 ?_
     refine S_offD ?_
     refine S_pickT (v := .bool _) rfl hb15 rfl ?_
     refine S_nil ?_
     refine ⟨_, hF, .hd (.refl _) ?_⟩
     repeat (first | with_reducible exact WS.refl _ | refine WS.add ?_ rfl | exact WS.refl _)
    ·
     refine S_on rfl rfl hb15 ?_
     refine S_in ?_
     refine S_m (v := .sl _ _ _) rfl ?_
     refine S_nil ?_
     refine S_on rfl rfl hb15 ?_
     refine S_in ?_
     refine S_ix rfl rfl ty_sl_24 ty_sz_30 hF (fun x18 _ hF => ?_)
     refine S_nil ?_
     refine S_on rfl rfl hb15 ?_
     refine S_in ?_
     refine S_faQ rfl ty_fd_30_3 ty_sz_28 rfl ?_
     refine S_nil ?_
     refine S_on rfl rfl hb15 ?_
     refine S_in ?_
     refine S_ldQ rfl (p_one ty_ag_28 ty_sz_28 rfl) ?_
     refine S_nil ?_
     refine S_on rfl rfl hb15 ?_
     refine S_in ?_
     refine S_ix rfl rfl ty_sl_28 ty_sz_32 hF (fun x19 _ hF => ?_)
     refine S_nil ?_
     refine S_on rfl rfl hb15 ?_
     refine S_in ?_
     refine S_faQ rfl ty_fd_32_0 ty_sz_9 rfl ?_
     refine S_nil ?_
     refine S_on rfl rfl hb15 ?_
     refine S_in ?_
     refine S_ldQ rfl (p_one ty_ag_9 ty_sz_9 rfl) ?_
     refine S_nil ?_
     refine S_on rfl rfl hb15 ?_
     refine S_in ?_
     refine S_m (v := .str _) rfl ?_
     refine S_nil ?_
     refine S_on rfl rfl hb15 ?_
     refine S_in ?_
     refine S_bin rfl rfl e_sneq ?_
     refine S_nil ?_
     refine S_pickF (v := .bool _) rfl hb15 rfl ?_
     refine S_nil ?_
     refine ⟨_, hF, .hd (.refl _) ?_⟩
     repeat (first | with_reducible exact WS.refl _ | refine WS.add ?_ rfl | exact WS.refl _)
    ·
     refine S_m (v := .bool _) rfl ?_
     refine S_twoJ 7 105 hF (fun J21 hb20 hF => ?_) (fun J21 hb20 hF => ?_) (fun v22 hF => ?_)
     ·
      refine S_off rfl rfl hb20 ?_
      refine S_offD ?_
      refine S_off rfl rfl hb20 ?_
      refine S_offD ?_
      refine S_off rfl rfl hb20 ?_
      refine S_offD ?_
      refine S_off rfl rfl hb20 ?_
      refine S_offD ?_
      refine S_off rfl rfl hb20 ?_
      refine S_offD ?_
      refine S_off rfl rfl hb20 ?_
      refine S_offD ?_
      refine S_pickT (v := .bool _) rfl hb20 rfl ?_
      refine S_nil ?_
      refine ⟨_, hF, .hd (.refl _) ?_⟩
      repeat (first | with_reducible exact WS.refl _ | refine WS.add ?_ rfl | exact WS.refl _)
     ·
      refine S_on rfl rfl hb20 ?_
      refine S_in ?_
      refine S_m (v := .sl _ _ _) rfl ?_
      refine S_nil ?_
      refine S_on rfl rfl hb20 ?_
      refine S_in ?_
      refine S_ix rfl rfl ty_sl_24 ty_sz_30 hF (fun x23 _ hF => ?_)
      refine S_nil ?_
      refine S_on rfl rfl hb20 ?_
      refine S_in ?_
      refine S_faQ rfl ty_fd_30_2 ty_sz_9 rfl ?_
      refine S_nil ?_
      refine S_on rfl rfl hb20 ?_
      refine S_in ?_
      refine S_ldQ rfl (p_one ty_ag_9 ty_sz_9 rfl) ?_
      refine S_nil ?_
      refine S_on rfl rfl hb20 ?_
      refine S_in ?_
      refine S_m (v := .str _) rfl ?_
      refine S_nil ?_
      refine S_on rfl rfl hb20 ?_
      refine S_in ?_
      refine S_bin rfl rfl e_sneq ?_
      refine S_nil ?_
      refine S_pickF (v := .bool _) rfl hb20 rfl ?_
      refine S_nil ?_
      refine ⟨_, hF, .hd (.refl _) ?_⟩
      repeat (first | with_reducible exact WS.refl _ | refine WS.add ?_ rfl | exact WS.refl _)
     ·
      refine S_m (v := .bool _) rfl ?_
      refine S_two (b := v22) 4 110 (.bool (v22 || (decide ((65536 : Int) < ((((((((((((([239, 187, 191, 60] : List UInt8) ++ p0) ++ x3) ++ p1) ++ x3) ++ ([61] : List UInt8)) ++ x3) ++ ([39] : List UInt8)) ++ p2) ++ ([39] : List UInt8)) ++ x3) ++ ([47, 62] : List UInt8)).length : Int))))) (fun hb24 => ?_) (fun hb24 => ?_) ?_
      ·
       refine S_off rfl rfl hb24 ?_
       refine S_offD ?_
       refine S_off rfl rfl hb24 ?_
       refine S_offD ?_
       refine S_off rfl rfl hb24 ?_
       refine S_offD ?_
       refine S_pickT (v := .bool _) rfl hb24 rfl ?_
       refine S_nil ?_
       refine .hd (or_t hb24) ?_
       repeat (first | with_reducible exact WS.refl _ | refine WS.add ?_ rfl | exact WS.refl _)
      ·
       refine S_on rfl rfl hb24 ?_
       refine S_in ?_
       refine S_m (v := .str _) rfl ?_
       refine S_nil ?_
       refine S_on rfl rfl hb24 ?_
       refine S_in ?_
       refine S_lenS rfl ty_st_9 ?_
       refine S_nil ?_
       refine S_on rfl rfl hb24 ?_
       refine S_in ?_
       refine S_bin rfl rfl (ev_gtr ..) ?_
       refine S_nil ?_
       refine S_pickF (v := .bool _) rfl hb24 rfl ?_
       refine S_nil ?_
       refine .hd (or_f hb24) ?_
       repeat (first | with_reducible exact WS.refl _ | refine WS.add ?_ rfl | exact WS.refl _)
      refine S_nil ?_
      refine C_if (b := (v22 || (decide ((65536 : Int) < ((((((((((((([239, 187, 191, 60] : List UInt8) ++ p0) ++ x3) ++ p1) ++ x3) ++ ([61] : List UInt8)) ++ x3) ++ ([39] : List UInt8)) ++ p2) ++ ([39] : List UInt8)) ++ x3) ++ ([47, 62] : List UInt8)).length : Int))))) rfl hF (fun hb25 hF => ?_) (fun hb25 hF => ?_)
      ·
       refine C_seq ?_
       refine C_reg (mdl []) ?_
       refine S_a (v := .bool _) rfl ?_
       refine S_nil ?_
       refine WP_ret ?_
       repeat (first | with_reducible refine Exit.sel_ret ?_ | with_reducible refine Exit.blk_ret ?_ | with_reducible refine Exit.jmp_ret ?_)
       refine C_ret (fn := Tryd.f6) rfl (.tmp (v := .bool true) rfl .nil) ?_
       exact ⟨_, _, (.refl _), WH.refl _, _, F_some hF, rfl⟩
      ·
       refine WP_skip ?_
       refine C_join hF (fun (a35 : Bool) s' => OK h [] ∧ WS s' ⟨mkSl 129 [(8, .bool a35)], Hp h []⟩) (fun J36 hF => ?_) ?_
       ·
        refine C_plan (mdl [(121, 3), (125, 3)]) [0, 1, 2, 3, 4, 5, 6, 7, 8, 9, 10, 12, 13, 14, 11, 15, 16, 17, 18] [_, _, _, _, _, _, _, _, _, _, _, _, _, _, _, _, _, _, _] (by kernel_rfl) rfl rfl (by kernel_rfl) ?_
        refine S_m (v := .int _ _) rfl ?_
        refine S_bin rfl rfl (ev_eql ..) ?_
        refine S_m (v := .bool _) rfl ?_
        refine S_if (b := (x5.2.2 == (0 : Int))) hF (fun hb37 hF => ?_) (fun hb38 hF => ?_)
        ·
         refine S_on rfl rfl hb37 ?_
         refine S_in ?_
         refine S_m (v := .sl _ _ _) rfl ?_
         refine S_nil ?_
         refine S_on rfl rfl hb37 ?_
         refine S_in ?_
         refine S_lenL rfl ty_sl_24 ?_
         refine S_nil ?_
         refine S_on rfl rfl hb37 ?_
         refine S_in ?_
         refine S_bin rfl rfl (ev_eql ..) ?_
         refine S_nil ?_
         refine S_pickT (v := .bool _) rfl hb37 rfl ?_
         refine S_m (v := .bool _) rfl ?_
         refine S_if (b := ((x5.1.length : Int) == (1 : Int))) hF (fun hb39 hF => ?_) (fun hb40 hF => ?_)
         ·
          refine S_on rfl rfl hb39 ?_
          refine S_in ?_
          refine S_m (v := .sl _ _ _) rfl ?_
          refine S_nil ?_
          refine S_on rfl rfl hb39 ?_
          refine S_in ?_
          refine S_ix rfl rfl ty_sl_24 ty_sz_30 hF (fun x41 _ hF => ?_)
          refine S_nil ?_
          refine S_on rfl rfl hb39 ?_
          refine S_in ?_
          refine S_ldQ rfl (p_agg (vs := c_T_scan_Token x41) ty_ag_30 ty_sz_30 rfl rfl) ?_
          refine S_nil ?_
          refine S_on rfl rfl hb39 ?_
          refine S_in ?_
          refine S_m (v := .sl _ _ _) rfl ?_
          refine S_nil ?_
          refine S_on rfl rfl hb39 ?_
          refine S_in ?_
          refine S_ix rfl rfl ty_sl_24 ty_sz_30 hF (fun x42 _ hF => ?_)
          refine S_nil ?_
          refine S_on rfl rfl hb39 ?_
          refine S_in ?_
          refine S_ldQ rfl (p_agg (vs := c_T_scan_Token x42) ty_ag_30 ty_sz_30 rfl rfl) ?_
          refine S_nil ?_
          refine S_on rfl rfl hb39 ?_
          refine S_in ?_
          refine S_call (F_lecternlaw03_doc_ok _ hF fun x43 _ hF => ?_) (.cons (.refl _) (.nil))
          refine S_nil ?_
          refine S_on rfl rfl hb39 ?_
          refine S_in ?_
          refine S_call (F_lecternlaw03_doc_ok _ hF fun x44 _ hF => ?_) (.cons (.refl _) (.nil))
          refine S_nil ?_
          refine S_on rfl rfl hb39 ?_
          refine S_in ?_
          refine S_call (F_lecternref03_Same_ok _ hF fun x45 _ hF => ?_) (.cons (.refl _) (.cons (.refl _) (.nil)))
          refine S_nil ?_
          refine S_pickT (v := .bool _) rfl hb39 rfl ?_
          refine S_a (v := .bool _) rfl ?_
          refine S_nil ?_
          have hwo : WO [] [] := .nil
          exact ⟨x45, hF, (hwo.spec ok).1, WS.mk' (.cons (.refl _) .nil) ok hwo⟩
         ·
          refine S_off rfl rfl hb40 ?_
          refine S_offD ?_
          refine S_off rfl rfl hb40 ?_
          refine S_offD ?_
          refine S_off rfl rfl hb40 ?_
          refine S_offD ?_
          refine S_off rfl rfl hb40 ?_
          refine S_offD ?_
          refine S_off rfl rfl hb40 ?_
          refine S_offD ?_
          refine S_off rfl rfl hb40 ?_
          refine S_offD ?_
          refine S_off rfl rfl hb40 ?_
          refine S_offD ?_
          refine S_off rfl rfl hb40 ?_
          refine S_offD ?_
          refine S_off rfl rfl hb40 ?_
          refine S_offD ?_
          refine S_pickF (v := .bool _) rfl hb40 rfl ?_
          refine S_a (v := .bool _) rfl ?_
          refine S_nil ?_
          have hwo : WO [] [] := .nil
          exact ⟨false, hF, (hwo.spec ok).1, WS.mk' (.cons (.refl _) .nil) ok hwo⟩
        ·
         refine S_off rfl rfl hb38 ?_
         refine S_offD ?_
         refine S_off rfl rfl hb38 ?_
         refine S_offD ?_
         refine S_off rfl rfl hb38 ?_
         refine S_offD ?_
         refine S_pickF (v := .bool _) rfl hb38 rfl ?_
         refine S_m (v := .bool _) rfl ?_
         refine S_off rfl rfl rfl ?_
         refine S_offD ?_
         refine S_off rfl rfl rfl ?_
         refine S_offD ?_
         refine S_off rfl rfl rfl ?_
         refine S_offD ?_
         refine S_off rfl rfl rfl ?_
         refine S_offD ?_
         refine S_off rfl rfl rfl ?_
         refine S_offD ?_
         refine S_off rfl rfl rfl ?_
         refine S_offD ?_
         refine S_off rfl rfl rfl ?_
         refine S_offD ?_
         refine S_off rfl rfl rfl ?_
         refine S_offD ?_
         refine S_off rfl rfl rfl ?_
         refine S_offD ?_
         refine S_pickF (v := .bool _) rfl rfl rfl ?_
         refine S_a (v := .bool _) rfl ?_
         refine S_nil ?_
         have hwo : WO [] [] := .nil
         exact ⟨false, hF, (hwo.spec ok).1, WS.mk' (.cons (.refl _) .nil) ok hwo⟩
       ·
        rintro a35 s' hF ⟨ok, hws⟩
        refine WP_ws hws ?_
        clear hws s'
        refine WP_ret ?_
        repeat (first | with_reducible refine Exit.sel_ret ?_ | with_reducible refine Exit.blk_ret ?_ | with_reducible refine Exit.jmp_ret ?_)
        refine C_ret (fn := Tryd.f6) rfl (.tmp (v := .bool a35) rfl .nil) ?_
        exact ⟨_, _, (.refl _), WH.refl _, _, F_some hF, rfl⟩
theorem F_lecternref01_Lines_w (p0 : List UInt8) {G : (List UInt8) → Prop} (h : Heap) (hF : OptP (F_lecternref01_Lines p0) G) : CallsA Tryd.prog 19 [.sl 1 (List.map c_u8 p0) 0] h fun d h' => ∃ r, G r ∧ d = .sl 1 (List.map c_u8 r) 0 ∧ h' = h := by
 refine CallsA.ret ?_
 refine C_body Tryd.func19 rfl en_19 Tryd.ntmps19 rfl (fun ok => ?_)
 rw [F_lecternref01_Lines] at hF
 refine C_seq ?_
 refine C_reg (mdl []) ?_
 refine S_a (v := .snil) rfl ?_
 refine S_one 2 (v := .sl 1 (List.map c_u8 ([] : List UInt8)) 0) (.nil _) ?_
 refine S_nil ?_
 refine C_seq ?_
 refine C_reg (mdl [(5, 2)]) ?_
 refine S_lit2 (es := List.map c_u8 []) ok rfl ty_el_22 rfl rfl (by simp only [List.map_cons, List.map_nil, c_u8, ]; rfl) ?_
 intro r1 hr1 ok
 refine S_a (v := .sl _ _ _) rfl ?_
 refine S_nil ?_
 refine C_join hF (fun (a36 : (List UInt8)) s' => ∃ g37 : Nat, g37 ≠ 0 ∧ OK h [(g37, .room)] ∧ WS s' ⟨mkSl 45 [(3, .sl 1 (List.map c_u8 a36) g37)], Hp h [(g37, .room)]⟩) (fun J38 hF => ?_) ?_
 ·
  refine C_seq ?_
  refine C_reg (mdl []) ?_
  refine S_a (v := .int _ _) rfl ?_
  refine S_nil ?_
  refine WP_block ?_
  refine C_loop (σ := (List UInt8) × Int) hF (fun (v : (List UInt8) × Int) s' => match v with | (a39, a41) => ∃ g40 : Nat, g40 ≠ 0 ∧ OK h [(g40, .room)] ∧ WS s' ⟨mkSl 45 [(0, .sl 1 (List.map c_u8 p0) 0), (3, .sl 1 (List.map c_u8 a39) g40), (4, .int .i64 a41)], Hp h [(g40, .room)]⟩) ?_ ?_
  ·
   have hwo : WO [(r1, .room)] [(r1, .room)] := (.keep .nil)
   exact ⟨r1, hr1, (hwo.spec ok).1, WS.mk' (.cons (.refl _) (.cons (.refl _) (.cons (.refl _) .nil))) ok hwo⟩
  ·
   rintro G42 hG43 rec44 ⟨a39, a41⟩ s' ih45 hF ⟨g40, hg40, ok, hws⟩
   refine WP_ws hws ?_
   clear hws s'
   rw [F_lecternref01_Lines_l0] at hF
   refine C_seq ?_
   refine C_seq ?_
   refine C_reg (mdl []) ?_
   refine S_m (v := .int _ _) rfl ?_
   refine S_m (v := .sl _ _ _) rfl ?_
   refine S_lenL rfl ty_sl_22 ?_
   refine S_bin rfl rfl (ev_lss ..) ?_
   refine S_nil ?_
   refine C_if (b := (decide (a41 < (p0.length : Int)))) rfl hF (fun hb46 hF => ?_) (fun hb46 hF => ?_)
   ·
    refine WP_skip ?_
    refine C_join hF (fun (a61 : (List UInt8)) s' => ∃ g62 : Nat, g62 ≠ 0 ∧ OK h [(g62, .room)] ∧ WS s' ⟨mkSl 45 [(0, .sl 1 (List.map c_u8 p0) 0), (3, .sl 1 (List.map c_u8 a61) g62), (4, .int .i64 a41)], Hp h [(g62, .room)]⟩) (fun J63 hF => ?_) ?_
    ·
     refine WP_block ?_
     refine C_seq ?_
     refine C_reg (mdl []) ?_
     refine S_m (v := .sl _ _ _) rfl ?_
     refine S_m (v := .int _ _) rfl ?_
     refine S_ix rfl rfl ty_sl_22 ty_sz_5 hF (fun x64 _ hF => ?_)
     refine S_ldQ rfl (p_one ty_ag_5 ty_sz_5 rfl) ?_
     refine S_bin rfl rfl (ev_eql ..) ?_
     refine S_nil ?_
     refine C_if (b := ((x64.toNat : Int) == (13 : Int))) rfl hF (fun hb65 hF => ?_) (fun hb65 hF => ?_)
     ·
      refine C_reg (mdl [(19, 2)]) ?_
      refine S_m (v := .sl _ _ _) rfl ?_
      obtain ⟨b66, hb66, hF⟩ := F_bind hF
      replace hb66 := u8_spec hb66
      refine S_lit0 (es := List.map c_u8 [b66]) rfl ty_el_22 rfl rfl (by simp only [List.map_cons, List.map_nil, c_u8, hb66]; rfl) ?_
      refine S_app (j := 0) ok rfl rfl rfl rfl hg40 ty_el_22 ty_ni_22 hF ?_
      intro r67 hr67 ok hF
      refine S_a (v := .sl _ _ _) rfl ?_
      refine S_nil ?_
      have hwo : WO [(r67, .room)] [(r67, .room)] := (.keep .nil)
      exact ⟨(a39 ++ [b66]), hF, r67, hr67, (hwo.spec ok).1, WS.mk' (.cons (.refl _) (.cons (.refl _) (.cons (.refl _) .nil))) ok hwo⟩
     ·
      refine C_seq ?_
      refine C_reg (mdl []) ?_
      refine S_m (v := .sl _ _ _) rfl ?_
      refine S_m (v := .int _ _) rfl ?_
      refine S_ix rfl rfl ty_sl_22 ty_sz_5 hF (fun x68 _ hF => ?_)
      refine S_ldQ rfl (p_one ty_ag_5 ty_sz_5 rfl) ?_
      refine S_bin rfl rfl (ev_neq ..) ?_
      refine S_m (v := .bool _) rfl ?_
      refine S_two (b := ((x68.toNat : Int) != (10 : Int))) 3 28 (.bool (((x68.toNat : Int) != (10 : Int)) || (a41 == (0 : Int)))) (fun hb69 => ?_) (fun hb69 => ?_) ?_
      ·
       refine S_off rfl rfl hb69 ?_
       refine S_offD ?_
       refine S_off rfl rfl hb69 ?_
       refine S_offD ?_
       refine S_pickT (v := .bool _) rfl hb69 rfl ?_
       refine S_nil ?_
       refine .hd (or_t hb69) ?_
       repeat (first | with_reducible exact WS.refl _ | refine WS.add ?_ rfl | exact WS.refl _)
      ·
       refine S_on rfl rfl hb69 ?_
       refine S_in ?_
       refine S_m (v := .int _ _) rfl ?_
       refine S_nil ?_
       refine S_on rfl rfl hb69 ?_
       refine S_in ?_
       refine S_bin rfl rfl (ev_eql ..) ?_
       refine S_nil ?_
       refine S_pickF (v := .bool _) rfl hb69 rfl ?_
       refine S_nil ?_
       refine .hd (or_f hb69) ?_
       repeat (first | with_reducible exact WS.refl _ | refine WS.add ?_ rfl | exact WS.refl _)
      refine S_m (v := .bool _) rfl ?_
      refine S_twoJ 7 36 hF (fun J71 hb70 hF => ?_) (fun J71 hb70 hF => ?_) (fun v72 hF => ?_)
      ·
       refine S_off rfl rfl hb70 ?_
       refine S_offD ?_
       refine S_off rfl rfl hb70 ?_
       refine S_offD ?_
       refine S_off rfl rfl hb70 ?_
       refine S_offD ?_
       refine S_off rfl rfl hb70 ?_
       refine S_offD ?_
       refine S_off rfl rfl hb70 ?_
       refine S_offD ?_
       refine S_off rfl rfl hb70 ?_
       refine S_offD ?_
       refine S_pickT (v := .bool _) rfl hb70 rfl ?_
       refine S_nil ?_
       refine ⟨_, hF, .hd (.refl _) ?_⟩
       repeat (first | with_reducible exact WS.refl _ | refine WS.add ?_ rfl | exact WS.refl _)
      ·
       refine S_on rfl rfl hb70 ?_
       refine S_in ?_
       refine S_m (v := .sl _ _ _) rfl ?_
       refine S_nil ?_
       refine S_on rfl rfl hb70 ?_
       refine S_in ?_
       refine S_m (v := .int _ _) rfl ?_
       refine S_nil ?_
       refine S_on rfl rfl hb70 ?_
       refine S_in ?_
       refine S_bin rfl rfl (ev_sub ..) ?_
       refine S_nil ?_
       refine S_on rfl rfl hb70 ?_
       refine S_in ?_
       refine S_ix rfl rfl ty_sl_22 ty_sz_5 hF (fun x73 _ hF => ?_)
       refine S_nil ?_
       refine S_on rfl rfl hb70 ?_
       refine S_in ?_
       refine S_ldQ rfl (p_one ty_ag_5 ty_sz_5 rfl) ?_
       refine S_nil ?_
       refine S_on rfl rfl hb70 ?_
       refine S_in ?_
       refine S_bin rfl rfl (ev_neq ..) ?_
       refine S_nil ?_
       refine S_pickF (v := .bool _) rfl hb70 rfl ?_
       refine S_nil ?_
       refine ⟨_, hF, .hd (.refl _) ?_⟩
       repeat (first | with_reducible exact WS.refl _ | refine WS.add ?_ rfl | exact WS.refl _)
      ·
       refine S_nil ?_
       refine C_if (b := v72) rfl hF (fun hb74 hF => ?_) (fun hb74 hF => ?_)
       ·
        refine C_reg (mdl [(43, 2)]) ?_
        refine S_m (v := .sl _ _ _) rfl ?_
        refine S_m (v := .sl _ _ _) rfl ?_
        refine S_m (v := .int _ _) rfl ?_
        refine S_ix rfl rfl ty_sl_22 ty_sz_5 hF (fun x75 _ hF => ?_)
        refine S_ldQ rfl (p_one ty_ag_5 ty_sz_5 rfl) ?_
        obtain ⟨b76, hb76, hF⟩ := F_bind hF
        replace hb76 := u8_spec hb76
        refine S_lit0 (es := List.map c_u8 [b76]) rfl ty_el_22 rfl rfl (by simp only [List.map_cons, List.map_nil, c_u8, hb76]; rfl) ?_
        refine S_app (j := 0) ok rfl rfl rfl rfl hg40 ty_el_22 ty_ni_22 hF ?_
        intro r77 hr77 ok hF
        refine S_a (v := .sl _ _ _) rfl ?_
        refine S_nil ?_
        have hwo : WO [(r77, .room)] [(r77, .room)] := (.keep .nil)
        exact ⟨(a39 ++ [b76]), hF, r77, hr77, (hwo.spec ok).1, WS.mk' (.cons (.refl _) (.cons (.refl _) (.cons (.refl _) .nil))) ok hwo⟩
       ·
        refine WP_skip ?_
        have hwo : WO [(g40, .room)] [(g40, .room)] := (.keep .nil)
        exact ⟨a39, hF, g40, hg40, (hwo.spec ok).1, WS.mk' (.cons (.refl _) (.cons (.refl _) (.cons (.refl _) .nil))) ok hwo⟩
    ·
     rintro a61 s' hF ⟨g62, hg62, ok, hws⟩
     refine WP_ws hws ?_
     clear hws s'
     refine C_reg (mdl []) ?_
     refine S_m (v := .int _ _) rfl ?_
     refine S_bin rfl rfl (ev_add ..) ?_
     refine S_a (v := .int _ _) rfl ?_
     refine S_nil ?_
     refine ih45 (a61, (IntKind.wrap .i64 (a41 + (1 : Int)))) _ hF ?_
     have hwo : WO [(g62, .room)] [(g62, .room)] := (.keep .nil)
     exact ⟨g62, hg62, (hwo.spec ok).1, WS.mk' (.cons (.refl _) (.cons (.refl _) (.cons (.refl _) .nil))) ok hwo⟩
   ·
    refine WP_exit ?_
    simp only [Exit.sel, Exit.blk, Exit.jmp, if_true, if_false, reduceIte, Nat.reduceEqDiff, Nat.succ_ne_zero, Nat.zero_ne_one, Nat.one_ne_zero]
    replace hF := hG43 _ (F_some hF)
    have hwo : WO [(g40, .room)] [(g40, .room)] := (.keep .nil)
    exact ⟨a39, hF, g40, hg40, (hwo.spec ok).1, WS.mk' (.cons (.refl _) .nil) ok hwo⟩
 ·
  rintro a36 s' hF ⟨g37, hg37, ok, hws⟩
  refine WP_ws hws ?_
  clear hws s'
  refine C_seq ?_
  refine C_reg (mdl []) ?_
  refine S_m (v := .sl _ _ _) rfl ?_
  refine S_one 44 (v := .sl 1 (List.map c_u8 a36) 0) (.zero _ _ _) ?_
  refine S_a (v := .sl _ _ _) rfl ?_
  refine S_nil ?_
  refine WP_ret ?_
  repeat (first | with_reducible refine Exit.sel_ret ?_ | with_reducible refine Exit.blk_ret ?_ | with_reducible refine Exit.jmp_ret ?_)
  refine C_ret (fn := Tryd.f19) rfl (.tmp (v := .sl 1 (List.map c_u8 a36) 0) rfl .nil) ?_
  exact ⟨_, _, (.refl _), ok.wh, _, F_some hF, rfl, rfl⟩
theorem F_lecternref01_Lines_ok {β : Type} {f : (List UInt8) → Option β} {G : β → Prop} {R : D → Heap → Prop} {p0 : List UInt8} (h : Heap) (hF : OptP ((F_lecternref01_Lines p0).bind f) G) (hk : ∀ r, F_lecternref01_Lines p0 = some r → OptP (f r) G → R (.sl 1 (List.map c_u8 r) 0) h) : CallsA Tryd.prog 19 [.sl 1 (List.map c_u8 p0) 0] h R := by
 obtain ⟨r0, hr, hF⟩ := F_bind hF
 refine (F_lecternref01_Lines_w (G := fun r => r = r0) p0 h ⟨r0, hr, rfl⟩).mono ?_
 rintro _ _ ⟨r, rfl, rfl, rfl⟩
 exact hk _ hr hF
theorem F_lecternref03_Text_w (p0 : List UInt8) {G : (List UInt8) → Prop} (h : Heap) (hF : OptP (F_lecternref03_Text p0) G) : CallsA Tryd.prog 10 [.sl 1 (List.map c_u8 p0) 0] h fun d h' => ∃ r, G r ∧ d = .str r ∧ h' = h := by
 refine CallsA.ret ?_
 refine C_body Tryd.func10 rfl en_10 Tryd.ntmps10 rfl (fun ok => ?_)
 rw [F_lecternref03_Text] at hF
 refine C_seq ?_
 refine C_reg (mdl []) ?_
 refine S_a (v := .str ([] : List UInt8)) rfl ?_
 refine S_nil ?_
 refine C_join hF (fun (a15 : (List UInt8)) s' => OK h [] ∧ WS s' ⟨mkSl 29 [(0, .sl 1 (List.map c_u8 a15) 0)], Hp h []⟩) (fun J16 hF => ?_) ?_
 ·
  refine C_seq ?_
  refine C_reg (mdl []) ?_
  refine S_m (v := .sl _ _ _) rfl ?_
  refine S_lenL rfl ty_sl_22 ?_
  refine S_bin rfl rfl (ev_geq ..) ?_
  refine S_m (v := .bool _) rfl ?_
  refine S_twoJ 5 11 hF (fun J18 hb17 hF => ?_) (fun J18 hb17 hF => ?_) (fun v19 hF => ?_)
  ·
   refine S_on rfl rfl hb17 ?_
   refine S_in ?_
   refine S_m (v := .sl _ _ _) rfl ?_
   refine S_nil ?_
   refine S_on rfl rfl hb17 ?_
   refine S_in ?_
   refine S_ix rfl rfl ty_sl_22 ty_sz_5 hF (fun x20 _ hF => ?_)
   refine S_nil ?_
   refine S_on rfl rfl hb17 ?_
   refine S_in ?_
   refine S_ldQ rfl (p_one ty_ag_5 ty_sz_5 rfl) ?_
   refine S_nil ?_
   refine S_on rfl rfl hb17 ?_
   refine S_in ?_
   refine S_bin rfl rfl (ev_eql ..) ?_
   refine S_nil ?_
   refine S_pickT (v := .bool _) rfl hb17 rfl ?_
   refine S_nil ?_
   refine ⟨_, hF, .hd (.refl _) ?_⟩
   repeat (first | with_reducible exact WS.refl _ | refine WS.add ?_ rfl | exact WS.refl _)
  ·
   refine S_off rfl rfl hb17 ?_
   refine S_offD ?_
   refine S_off rfl rfl hb17 ?_
   refine S_offD ?_
   refine S_off rfl rfl hb17 ?_
   refine S_offD ?_
   refine S_off rfl rfl hb17 ?_
   refine S_offD ?_
   refine S_pickF (v := .bool _) rfl hb17 rfl ?_
   refine S_nil ?_
   refine ⟨_, hF, .hd (.refl _) ?_⟩
   repeat (first | with_reducible exact WS.refl _ | refine WS.add ?_ rfl | exact WS.refl _)
  ·
   refine S_m (v := .bool _) rfl ?_
   refine S_twoJ 5 17 hF (fun J22 hb21 hF => ?_) (fun J22 hb21 hF => ?_) (fun v23 hF => ?_)
   ·
    refine S_on rfl rfl hb21 ?_
    refine S_in ?_
    refine S_m (v := .sl _ _ _) rfl ?_
    refine S_nil ?_
    refine S_on rfl rfl hb21 ?_
    refine S_in ?_
    refine S_ix rfl rfl ty_sl_22 ty_sz_5 hF (fun x24 _ hF => ?_)
    refine S_nil ?_
    refine S_on rfl rfl hb21 ?_
    refine S_in ?_
    refine S_ldQ rfl (p_one ty_ag_5 ty_sz_5 rfl) ?_
    refine S_nil ?_
    refine S_on rfl rfl hb21 ?_
    refine S_in ?_
    refine S_bin rfl rfl (ev_eql ..) ?_
    refine S_nil ?_
    refine S_pickT (v := .bool _) rfl hb21 rfl ?_
    refine S_nil ?_
    refine ⟨_, hF, .hd (.refl _) ?_⟩
    repeat (first | with_reducible exact WS.refl _ | refine WS.add ?_ rfl | exact WS.refl _)
   ·
    refine S_off rfl rfl hb21 ?_
    refine S_offD ?_
    refine S_off rfl rfl hb21 ?_
    refine S_offD ?_
    refine S_off rfl rfl hb21 ?_
    refine S_offD ?_
    refine S_off rfl rfl hb21 ?_
    refine S_offD ?_
    refine S_pickF (v := .bool _) rfl hb21 rfl ?_
    refine S_nil ?_
    refine ⟨_, hF, .hd (.refl _) ?_⟩
    repeat (first | with_reducible exact WS.refl _ | refine WS.add ?_ rfl | exact WS.refl _)
   ·
    refine S_m (v := .bool _) rfl ?_
    refine S_twoJ 5 23 hF (fun J26 hb25 hF => ?_) (fun J26 hb25 hF => ?_) (fun v27 hF => ?_)
    ·
     refine S_on rfl rfl hb25 ?_
     refine S_in ?_
     refine S_m (v := .sl _ _ _) rfl ?_
     refine S_nil ?_
     refine S_on rfl rfl hb25 ?_
     refine S_in ?_
     refine S_ix rfl rfl ty_sl_22 ty_sz_5 hF (fun x28 _ hF => ?_)
     refine S_nil ?_
     refine S_on rfl rfl hb25 ?_
     refine S_in ?_
     refine S_ldQ rfl (p_one ty_ag_5 ty_sz_5 rfl) ?_
     refine S_nil ?_
     refine S_on rfl rfl hb25 ?_
     refine S_in ?_
     refine S_bin rfl rfl (ev_eql ..) ?_
     refine S_nil ?_
     refine S_pickT (v := .bool _) rfl hb25 rfl ?_
     refine S_nil ?_
     refine ⟨_, hF, .hd (.refl _) ?_⟩
     repeat (first | with_reducible exact WS.refl _ | refine WS.add ?_ rfl | exact WS.refl _)
    ·
     refine S_off rfl rfl hb25 ?_
     refine S_offD ?_
     refine S_off rfl rfl hb25 ?_
     refine S_offD ?_
     refine S_off rfl rfl hb25 ?_
     refine S_offD ?_
     refine S_off rfl rfl hb25 ?_
     refine S_offD ?_
     refine S_pickF (v := .bool _) rfl hb25 rfl ?_
     refine S_nil ?_
     refine ⟨_, hF, .hd (.refl _) ?_⟩
     repeat (first | with_reducible exact WS.refl _ | refine WS.add ?_ rfl | exact WS.refl _)
    ·
     refine S_nil ?_
     refine C_if (b := v27) rfl hF (fun hb29 hF => ?_) (fun hb29 hF => ?_)
     ·
      refine C_reg (mdl []) ?_
      refine S_m (v := .sl _ _ _) rfl ?_
      refine S_slL rfl ty_sl_22 ty_sz_5 (bd_at rfl) bd_len hF (fun x30 _ hF => ?_)
      refine S_a (v := .sl _ _ _) rfl ?_
      refine S_nil ?_
      have hwo : WO [] [] := .nil
      exact ⟨x30, hF, (hwo.spec ok).1, WS.mk' (.cons (.refl _) .nil) ok hwo⟩
     ·
      refine WP_skip ?_
      have hwo : WO [] [] := .nil
      exact ⟨p0, hF, (hwo.spec ok).1, WS.mk' (.cons (.refl _) .nil) ok hwo⟩
 ·
  rintro a15 s' hF ⟨ok, hws⟩
  refine WP_ws hws ?_
  clear hws s'
  refine C_seq ?_
  refine C_reg (mdl []) ?_
  refine S_m (v := .sl _ _ _) rfl ?_
  refine S_call (F_lecternref01_Lines_ok _ hF fun x31 _ hF => ?_) (.cons (.refl _) (.nil))
  refine S_conv rfl (e_cbs ty_sl_22 ty_ki_5 ty_st_9) ?_
  refine S_a (v := .str _) rfl ?_
  refine S_nil ?_
  refine WP_ret ?_
  repeat (first | with_reducible refine Exit.sel_ret ?_ | with_reducible refine Exit.blk_ret ?_ | with_reducible refine Exit.jmp_ret ?_)
  refine C_ret (fn := Tryd.f10) rfl (.tmp (v := .str x31) rfl .nil) ?_
  exact ⟨_, _, (.refl _), ok.wh, _, F_some hF, rfl, rfl⟩
theorem F_lecternref03_Text_ok {β : Type} {f : (List UInt8) → Option β} {G : β → Prop} {R : D → Heap → Prop} {p0 : List UInt8} (h : Heap) (hF : OptP ((F_lecternref03_Text p0).bind f) G) (hk : ∀ r, F_lecternref03_Text p0 = some r → OptP (f r) G → R (.str r) h) : CallsA Tryd.prog 10 [.sl 1 (List.map c_u8 p0) 0] h R := by
 obtain ⟨r0, hr, hF⟩ := F_bind hF
 refine (F_lecternref03_Text_w (G := fun r => r = r0) p0 h ⟨r0, hr, rfl⟩).mono ?_
 rintro _ _ ⟨r, rfl, rfl, rfl⟩
 exact hk _ hr hF
end Go.Proofs.YtfokkdofcekdbaaDoor
