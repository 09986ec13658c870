/- The walks. No condition. -/
import Derived.Test.YtfokkdofcekdbaaGreatDoorQz
import Derived.Test.YtfokkdofcekdbaaGreatDoorPf
import Derived.Test.YtfokkdofcekdbaaGreatDoorTy
set_option linter.unusedVariables false
set_option linter.unusedSimpArgs false
set_option maxRecDepth 20000
set_option maxHeartbeats 8000000
namespace Go.Proofs.YtfokkdofcekdbaaGreatDoor
theorem F_bytes_Equal_w (p0 : List UInt8) (p1 : List UInt8) {G : Bool → Prop} (h : Heap) (hF : OptP (F_bytes_Equal p0 p1) G) : CallsA Tryz.prog 65 [.sl 1 (List.map c_u8 p0) 0, .sl 1 (List.map c_u8 p1) 0] h fun d h' => ∃ r, G r ∧ d = .bool r ∧ h' = h := by
 refine CallsA.ret ?_
 refine C_body Tryz.func65 rfl en_65 Tryz.ntmps65 rfl (fun ok => ?_)
 rw [F_bytes_Equal] at hF
 refine Zqdb ?_
 refine Zqcu ?_
 refine Zqbe ?_
 refine Zqas ?_
 refine Zqbe ?_
 refine Zqba ?_
 refine Zqcl ?_
 exact rt
theorem F_bytes_HasPrefix_w (p0 : List UInt8) (p1 : List UInt8) {G : Bool → Prop} (h : Heap) (hF : OptP (F_bytes_HasPrefix p0 p1) G) : CallsA Tryz.prog 42 [.sl 1 (List.map c_u8 p0) 0, .sl 1 (List.map c_u8 p1) 0] h fun d h' => ∃ r, G r ∧ d = .bool r ∧ h' = h := by
 refine CallsA.ret ?_
 refine C_body Tryz.func42 rfl en_42 Tryz.ntmps42 rfl (fun ok => ?_)
 rw [F_bytes_HasPrefix] at hF
 refine Zqdb ?_
 refine Zqf2 ?_
 refine Zqdw ?_
 refine Zqc6 ?_
 refine S_twoJ 7 17 hF (fun J2 hb1 hF => ?_) (fun J2 hb1 hF => ?_) (fun v3 hF => ?_)
 ·refine Zqdh ?_
  refine Zqc3 ?_
  refine Zqez ?_
  refine S_slL rfl ty_sl_22 ty_sz_5 bd_no (bd_at rfl) hF (fun x4 _ hF => ?_)
  refine Zqb4 ?_
  refine Zqc3 ?_
  refine cl (ok_of (fun _ h hF => F_bytes_Equal_w _ _ h hF) _ hF fun x5 _ hF => ?_)
  refine Zqci ?_
  exact tw
 ·refine Zqf3 ?_
  exact tw
 ·refine Zqcl ?_
  exact rt
theorem F_bytes_TrimPrefix_w (p0 : List UInt8) (p1 : List UInt8) {G : (List UInt8) → Prop} (h : Heap) (hF : OptP (F_bytes_TrimPrefix p0 p1) G) : CallsA Tryz.prog 19 [.sl 1 (List.map c_u8 p0) 0, .sl 1 (List.map c_u8 p1) 0] h fun d h' => ∃ r, G r ∧ d = .sl 1 (List.map c_u8 r) 0 ∧ h' = h := by
 refine CallsA.ret ?_
 refine C_body Tryz.func19 rfl en_19 Tryz.ntmps19 rfl (fun ok => ?_)
 rw [F_bytes_TrimPrefix] at hF
 refine Zqb1 ?_
 refine S_a (v := .snil) rfl ?_
 refine S_one 4 (v := .sl 1 (List.map c_u8 ([] : List UInt8)) 0) (.nil _) ?_
 refine Zqdi ?_
 refine Zqcu ?_
 refine Zqas ?_
 refine cl (ok_of (fun _ h hF => F_bytes_HasPrefix_w _ _ h hF) _ hF fun x1 _ hF => ?_)
 refine Zqaa ?_
 refine C_if rfl hF (fun hb2 hF => ?_) fun hb2 hF => ?_
 ·refine Zqcu ?_
  refine Zqdw ?_
  refine S_slL rfl ty_sl_22 ty_sz_5 (bd_at rfl) bd_len hF (fun x3 _ hF => ?_)
  refine Zqd0 ?_
  refine Zqaj ?_
  exact rt
 ·refine Zqal ?_
  refine Zqcu ?_
  refine Zqd0 ?_
  refine Zqaj ?_
  exact rt
theorem F_char_Lines_w (p0 : List UInt8) {G : (List UInt8) → Prop} (h : Heap) (hF : OptP (F_char_Lines p0) G) : CallsA Tryz.prog 18 [.sl 1 (List.map c_u8 p0) 0] h fun d h' => ∃ r, G r ∧ d = .sl 1 (List.map c_u8 r) 0 ∧ h' = h := by
 refine CallsA.ret ?_
 refine C_body Tryz.func18 rfl en_18 Tryz.ntmps18 rfl (fun ok => ?_)
 rw [F_char_Lines] at hF
 refine Zqb1 ?_
 refine S_a (v := .snil) rfl ?_
 refine S_one 2 (v := .sl 1 (List.map c_u8 ([] : List UInt8)) 0) (.nil _) ?_
 refine Zqdi ?_
 refine C_reg (mdl [(8, 1)]) ?_
 refine Zqdw ?_
 refine S_mk1O (c := c_u8) (z0 := (0 : UInt8)) ok rfl ty_el_22 rfl rfl rfl hF ?_
 intro u1 zu1 ok hF
 obtain ⟨a2, ha2, hF⟩ := F_let hF
 rw [← ha2] at ok zu1
 rw [← ha2]
 refine Zqbr ?_
 refine Zqaa ?_
 refine C_join hF (fun (a48 : (List UInt8)) s' => ∃ g47 : Nat, (g47 = 0 → a48 = []) ∧ OK h [mo g47 c_u8 a48] ∧ WS s' ⟨mkSl 40 [(3, mslO 1 g47 a48)], Hp h [mo g47 c_u8 a48]⟩) (fun J49 hF => ?_) ?_
 ·refine Zqf2 ?_
  refine Zqfc ?_
  refine C_loop (σ := (List UInt8) × Int) hF (fun (v : (List UInt8) × Int) s' => match v with | (a51, a52) => ∃ g50 : Nat, (g50 = 0 → a51 = []) ∧ OK h [mo g50 c_u8 a51] ∧ WS s' ⟨mkSl 40 [(0, .sl 1 (List.map c_u8 p0) 0), (3, mslO 1 g50 a51), (9, .sl 1 (List.map c_u8 p0) 0), (10, .int .i64 (p0.length : Int)), (11, .int .i64 a52)], Hp h [mo g50 c_u8 a51]⟩) ?_ ?_
  ·exact ⟨u1, zu1, oy ok, wy ok⟩
  ·rintro G53 hG54 rec55 ⟨a51, a52⟩ s' ih56 hF ⟨g50, zg50, ok, hws⟩
   refine WP_ws hws ?_
   clear hws s'
   rw [F_char_Lines_l0] at hF
   refine Zqfe ?_
   refine C_if rfl hF (fun hb57 hF => ?_) fun hb57 hF => ?_
   ·refine Zqal ?_
    refine C_join hF (fun (a78 : (List UInt8)) s' => ∃ g77 : Nat, (g77 = 0 → a78 = []) ∧ OK h [mo g77 c_u8 a78] ∧ WS s' ⟨mkSl 40 [(0, .sl 1 (List.map c_u8 p0) 0), (3, mslO 1 g77 a78), (9, .sl 1 (List.map c_u8 p0) 0), (10, .int .i64 (p0.length : Int)), (11, .int .i64 a52)], Hp h [mo g77 c_u8 a78]⟩) (fun J79 hF => ?_) ?_
    ·refine Zqfq ?_
     refine S_ix rfl rfl ty_sl_22 ty_sz_5 hF (fun x80 _ hF => ?_)
     refine Zqbc ?_
     refine Zqcn ?_
     refine C_join hF (fun (a88 : Int) s' => OK h [mo g50 c_u8 a51] ∧ WS s' ⟨mkSl 40 [(0, .sl 1 (List.map c_u8 p0) 0), (3, mslO 1 g50 a51), (5, .int .u8 a88), (9, .sl 1 (List.map c_u8 p0) 0), (10, .int .i64 (p0.length : Int)), (11, .int .i64 a52)], Hp h [mo g50 c_u8 a51]⟩) (fun J89 hF => ?_) ?_
     ·refine Zqfq ?_
      refine Zqdr ?_
      refine S_two (b := ((x80.toNat : Int) == (10 : Int))) 3 22 (.bool (((x80.toNat : Int) == (10 : Int)) && (decide ((0 : Int) < a52)))) (fun hb90 => ?_) (fun hb90 => ?_) ?_
      ·refine Zqce ?_
       refine Zqbg ?_
       refine Zqci ?_
       exact th
      ·refine Zqcv ?_
       exact th
      refine Zqam ?_
      refine S_twoJ 7 30 hF (fun J92 hb91 hF => ?_) (fun J92 hb91 hF => ?_) (fun v93 hF => ?_)
      ·refine Zqek ?_
       refine Zqbf ?_
       refine Zqb4 ?_
       refine S_ix rfl rfl ty_sl_22 ty_sz_5 hF (fun x94 _ hF => ?_)
       refine Zqf4 ?_
       exact tw
      ·refine Zqf3 ?_
       exact tw
      ·refine Zqcb ?_
       refine C_if rfl hF (fun hb95 hF => ?_) fun hb95 hF => ?_
       ·refine Zqcs ?_
        exact ⟨a51, hF, g50, zg50, oy ok, wy ok⟩
       ·refine Zqb7 ?_
        refine Zqf5 ?_
        refine C_if rfl hF (fun hb96 hF => ?_) fun hb96 hF => ?_
        ·refine Zqac ?_
         refine Zqb5 ?_
         exact ⟨(10 : Int), hF, oy ok, wy ok⟩
        ·refine Zqal ?_
         exact ⟨(x80.toNat : Int), hF, oy ok, wy ok⟩
     ·rintro a88 s' hF ⟨ok, hws⟩
      refine WP_ws hws ?_
      clear hws s'
      refine C_reg (mdl [(37, 1)]) ?_
      refine Zqbj ?_
      refine Zqah ?_
      obtain ⟨b97, hb97, hF⟩ := F_bind hF
      replace hb97 := u8_spec hb97
      refine S_lit0 (es := List.map c_u8 [b97]) rfl ty_el_22 rfl rfl (by simp only [List.map_cons, List.map_nil, c_u8, hb97]; rfl) ?_
      refine S_appO (j := 0) (M := [b97]) ok zg50 rfl rfl src_sl (fun _ => rfl) rfl ty_el_22 ty_ni_22 hF ?_
      intro u98 zu98 ok hF
      obtain ⟨a99, ha99, hF⟩ := F_let hF
      rw [← ha99] at ok zu98
      rw [← ha99]
      refine Zqbr ?_
      refine Zqaa ?_
      exact ⟨a99, hF, u98, zu98, oy ok, wy ok⟩
    ·rintro a78 s' hF ⟨g77, zg77, ok, hws⟩
     refine WP_ws hws ?_
     clear hws s'
     refine Zqfg ?_
     refine ih56 (a78, (IntKind.wrap .i64 (a52 + (1 : Int)))) _ hF ?_
     exact ⟨g77, zg77, oy ok, wy ok⟩
   ·refine Zqcs ?_
    replace hF := hG54 _ (F_some hF)
    exact ⟨a51, hF, g50, zg50, oy ok, wy ok⟩
 ·rintro a48 s' hF ⟨g47, zg47, ok, hws⟩
  refine WP_ws hws ?_
  clear hws s'
  refine Zqb1 ?_
  refine Zqbj ?_
  refine Zqbr ?_
  refine S_frzO 0 2 ok zg47 rfl rfl (fun _ => rfl) (fun ok => ?_)
  refine Zqaa ?_
  refine Zqaj ?_
  exact rt
theorem F_scan_Plain_w (p0 : List UInt8) {G : (List UInt8) → Prop} (h : Heap) (hF : OptP (F_scan_Plain p0) G) : CallsA Tryz.prog 9 [.sl 1 (List.map c_u8 p0) 0] h fun d h' => ∃ r, G r ∧ d = .sl 1 (List.map c_u8 r) 0 ∧ h' = h := by
 refine CallsA.ret ?_
 refine C_body Tryz.func9 rfl en_9 Tryz.ntmps9 rfl (fun ok => ?_)
 rw [F_scan_Plain] at hF
 refine Zqb1 ?_
 refine S_a (v := .snil) rfl ?_
 refine S_one 2 (v := .sl 1 (List.map c_u8 ([] : List UInt8)) 0) (.nil _) ?_
 refine Zqaa ?_
 refine Zqcu ?_
 obtain ⟨b1, hb1, hF⟩ := F_bind hF
 replace hb1 := u8_spec hb1
 obtain ⟨b2, hb2, hF⟩ := F_bind hF
 replace hb2 := u8_spec hb2
 obtain ⟨b3, hb3, hF⟩ := F_bind hF
 replace hb3 := u8_spec hb3
 refine S_lit0 (es := List.map c_u8 [b1, b2, b3]) rfl ty_el_22 rfl rfl (by simp only [List.map_cons, List.map_nil, c_u8, hb1, hb2, hb3]; rfl) ?_
 refine cl (ok_of (fun _ h hF => F_bytes_TrimPrefix_w _ _ h hF) _ hF fun x4 _ hF => ?_)
 refine cl (ok_of (fun _ h hF => F_char_Lines_w _ h hF) _ hF fun x5 _ hF => ?_)
 refine Zqd0 ?_
 refine Zqaj ?_
 exact rt
theorem F_char_in_w (p0 : Int) (p1 : List T_char_span) {G : Bool → Prop} (h : Heap) (hF : OptP (F_char_in p0 p1) G) : CallsA Tryz.prog 67 [.int .i32 p0, .sl 2 (List.map c_T_char_span p1) 0] h fun d h' => ∃ r, G r ∧ d = .bool r ∧ h' = h := by
 refine CallsA.ret ?_
 refine C_body Tryz.func67 rfl en_67 Tryz.ntmps67 rfl (fun ok => ?_)
 rw [F_char_in] at hF
 refine Zqdb ?_
 refine C_join hF (fun (_ : Unit) s' => OK h [] ∧ WS s' ⟨mkSl 22 [], Hp h []⟩) (fun J6 hF => ?_) ?_
 ·refine Zqcu ?_
  refine S_lenL rfl ty_sl_100 ?_
  refine Zqfc ?_
  refine C_loop (σ := Int) hF (fun (a7 : Int) s' => OK h [] ∧ WS s' ⟨mkSl 22 [(0, .int .i32 p0), (7, .sl 2 (List.map c_T_char_span p1) 0), (8, .int .i64 (p1.length : Int)), (9, .int .i64 a7)], Hp h []⟩) ?_ ?_
  ·exact ⟨oy ok, wy ok⟩
  ·rintro G8 hG9 rec10 a7 s' ih11 hF ⟨ok, hws⟩
   refine WP_ws hws ?_
   clear hws s'
   rw [F_char_in_l0] at hF
   refine Zqfe ?_
   refine C_if rfl hF (fun hb12 hF => ?_) fun hb12 hF => ?_
   ·refine Zqem ?_
    refine Zqab ?_
    refine C_reg (mdl [(6, 1)]) ?_
    refine S_ix rfl rfl ty_sl_100 ty_sz_99 hF (fun x13 _ hF => ?_)
    refine S_ldQ rfl (p_agg (vs := c_T_char_span x13) ty_ag_99 ty_sz_99 rfl rfl) ?_
    refine S_all1 ok rfl ty_zc_99 ?_
    intro i14 hi14 ok
    refine S_st (j := 0) (cs' := [.int .i32 x13.lo, .int .i32 x13.hi]) ok rfl rfl rfl hi14 rfl ty_sz_99 rfl rfl (fun ok => ?_)
    refine Zqaa ?_
    refine Zqb7 ?_
    refine S_faP rfl ty_fd_99_1 ty_sz_21 ?_
    refine S_ldP (j := 0) ok rfl rfl rfl hi14 (p_one (v := .int .i32 x13.hi) ty_ag_21 ty_sz_21 rfl) ?_
    refine Zqa8 ?_
    refine Zqaa ?_
    refine C_if rfl hF (fun hb15 hF => ?_) fun hb15 hF => ?_
    ·refine Zqb7 ?_
     refine S_faP rfl ty_fd_99_0 ty_sz_21 ?_
     refine S_ldP (j := 0) ok rfl rfl rfl hi14 (p_one (v := .int .i32 x13.lo) ty_ag_21 ty_sz_21 rfl) ?_
     refine Zqa0 ?_
     refine Zqcl ?_
     replace hF := hG9 _ (F_some hF)
     exact rt
    ·refine Zqal ?_
     refine Zqfg ?_
     refine ih11 (IntKind.wrap .i64 (a7 + (1 : Int))) _ hF ?_
     exact ⟨oy ok, wy ok⟩
   ·refine Zqcs ?_
    replace hF := hG9 _ (F_some hF)
    exact ⟨(), hF, oy ok, wy ok⟩
 ·rintro ⟨⟩ s' hF ⟨ok, hws⟩
  refine WP_ws hws ?_
  clear hws s'
  refine Zqdc ?_
  exact rt
theorem F_char_IsChar_w (p0 : Int) {G : Bool → Prop} (h : Heap) (hF : OptP (F_char_IsChar p0) G) : CallsA Tryz.prog 44 [.int .i32 p0] h fun d h' => ∃ r, G r ∧ d = .bool r ∧ h' = h := by
 refine CallsA.ret ?_
 refine C_body Tryz.func44 rfl en_44 Tryz.ntmps44 rfl (fun ok => ?_)
 rw [F_char_IsChar] at hF
 refine Zqdb ?_
 refine Zqb7 ?_
 refine Zqdr ?_
 refine S_two (b := (p0 == (9 : Int))) 3 8 (.bool ((p0 == (9 : Int)) || (p0 == (10 : Int)))) (fun hb1 => ?_) (fun hb1 => ?_) ?_
 ·refine Zqc9 ?_
  exact th
 ·refine Zqd7 ?_
  exact th
 refine Zqam ?_
 refine S_two (b := ((p0 == (9 : Int)) || (p0 == (10 : Int)))) 3 12 (.bool (((p0 == (9 : Int)) || (p0 == (10 : Int))) || (p0 == (13 : Int)))) (fun hb2 => ?_) (fun hb2 => ?_) ?_
 ·refine Zqc9 ?_
  exact th
 ·refine Zqd7 ?_
  exact th
 refine Zqam ?_
 refine S_twoJ 7 20 hF (fun J4 hb3 hF => ?_) (fun J4 hb3 hF => ?_) (fun v5 hF => ?_)
 ·refine Zqck ?_
  refine Zqc9 ?_
  exact tw
 ·refine Zqce ?_
  refine S_bld (v := .agg (c_T_char_span (⟨(32 : Int), (55295 : Int)⟩ : T_char_span))) (b_st ty_zc_99 ty_pl_99 rfl) ?_
  refine Zqb4 ?_
  refine S_bld (v := .agg (c_T_char_span (⟨(57344 : Int), (65533 : Int)⟩ : T_char_span))) (b_st ty_zc_99 ty_pl_99 rfl) ?_
  refine Zqb4 ?_
  refine S_bld (v := .agg (c_T_char_span (⟨(65536 : Int), (1114111 : Int)⟩ : T_char_span))) (b_st ty_zc_99 ty_pl_99 rfl) ?_
  refine Zqb4 ?_
  refine S_lit0 (cs := [.int .i32 (⟨(32 : Int), (55295 : Int)⟩ : T_char_span).lo, .int .i32 (⟨(32 : Int), (55295 : Int)⟩ : T_char_span).hi, .int .i32 (⟨(57344 : Int), (65533 : Int)⟩ : T_char_span).lo, .int .i32 (⟨(57344 : Int), (65533 : Int)⟩ : T_char_span).hi, .int .i32 (⟨(65536 : Int), (1114111 : Int)⟩ : T_char_span).lo, .int .i32 (⟨(65536 : Int), (1114111 : Int)⟩ : T_char_span).hi]) (es := (List.map c_T_char_span [(⟨(32 : Int), (55295 : Int)⟩ : T_char_span), (⟨(57344 : Int), (65533 : Int)⟩ : T_char_span), (⟨(65536 : Int), (1114111 : Int)⟩ : T_char_span)])) rfl ty_el_100 rfl (by kernel_rfl) (by kernel_rfl) ?_
  refine Zqb4 ?_
  refine cl (ok_of (fun _ h hF => F_char_in_w _ _ h hF) _ hF fun x6 _ hF => ?_)
  refine Zqcp ?_
  exact tw
 ·refine Zqcl ?_
  exact rt
theorem F_char_Next_w (p0 : List UInt8) (p1 : Int) {G : Int × Int × Int → Prop} (h : Heap) (hF : OptP (F_char_Next p0 p1) G) : CallsA Tryz.prog 22 [.sl 1 (List.map c_u8 p0) 0, .int .i64 p1] h fun d h' => ∃ r, G r ∧ d = .tup [.int .i32 r.1, .int .i64 r.2.1, .int .i64 r.2.2] ∧ h' = h := by
 refine CallsA.ret ?_
 refine C_body Tryz.func22 rfl en_22 Tryz.ntmps22 rfl (fun ok => ?_)
 rw [F_char_Next] at hF
 refine Zqb1 ?_
 refine Zqai ?_
 refine Zqds ?_
 refine Zqen ?_
 refine S_two (b := (decide (p1 < (0 : Int)))) 5 16 (.bool ((decide (p1 < (0 : Int))) || (decide ((p0.length : Int) ≤ p1)))) (fun hb1 => ?_) (fun hb1 => ?_) ?_
 ·refine Zqf6 ?_
  exact th
 ·refine Zqce ?_
  refine Zqc3 ?_
  refine Zqez ?_
  refine Zqa0 ?_
  refine Zqcp ?_
  exact th
 refine Zqaa ?_
 refine C_if rfl hF (fun hb2 hF => ?_) fun hb2 hF => ?_
 ·refine Zqfh ?_
  exact rt
 ·refine Zqal ?_
  refine Zqd8 ?_
  refine S_slL rfl ty_sl_22 ty_sz_5 (bd_at rfl) bd_len hF (fun x3 _ hF => ?_)
  refine cl (L_DecodeRune_ok _ hF fun x4 _ hF => ?_)
  refine Zqcw ?_
  refine Zqfr ?_
  refine Zqfq ?_
  refine Zqdr ?_
  refine S_two (b := (x4.1 == (65533 : Int))) 3 30 (.bool ((x4.1 == (65533 : Int)) && (decide (x4.2 < (3 : Int))))) (fun hb5 => ?_) (fun hb5 => ?_) ?_
  ·refine Zqce ?_
   refine Zqf7 ?_
   exact th
  ·refine Zqcv ?_
   exact th
  refine Zqcb ?_
  refine C_if rfl hF (fun hb6 hF => ?_) fun hb6 hF => ?_
  ·refine Zqfh ?_
   exact rt
  ·refine Zqb7 ?_
   refine cl (ok_of (fun _ h hF => F_char_IsChar_w _ h hF) _ hF fun x7 _ hF => ?_)
   refine Zqa6 ?_
   refine Zqcb ?_
   refine C_if rfl hF (fun hb8 hF => ?_) fun hb8 hF => ?_
   ·refine Zqfh ?_
    exact rt
   ·refine Zqal ?_
    refine Zqd5 ?_
    refine Zqcm ?_
    refine Zqeg ?_
    exact rt
theorem F_char_Fault_w (p0 : List UInt8) {G : Int × Int → Prop} (h : Heap) (hF : OptP (F_char_Fault p0) G) : CallsA Tryz.prog 14 [.sl 1 (List.map c_u8 p0) 0] h fun d h' => ∃ r, G r ∧ d = .tup [.int .i64 r.1, .int .i64 r.2] ∧ h' = h := by
 refine CallsA.ret ?_
 refine C_body Tryz.func14 rfl en_14 Tryz.ntmps14 rfl (fun ok => ?_)
 rw [F_char_Fault] at hF
 refine Zqb1 ?_
 refine Zqcn ?_
 refine C_join hF (fun (_ : Unit) s' => OK h [] ∧ WS s' ⟨mkSl 24 [], Hp h []⟩) (fun J5 hF => ?_) ?_
 ·refine Zqd9 ?_
  refine C_loop (σ := Int) hF (fun (a6 : Int) s' => OK h [] ∧ WS s' ⟨mkSl 24 [(0, .sl 1 (List.map c_u8 p0) 0), (4, .int .i64 a6)], Hp h []⟩) ?_ ?_
  ·exact ⟨oy ok, wy ok⟩
  ·rintro G7 hG8 rec9 a6 s' ih10 hF ⟨ok, hws⟩
   refine WP_ws hws ?_
   clear hws s'
   rw [F_char_Fault_l0] at hF
   refine Zqf8 ?_
   refine C_if rfl hF (fun hb11 hF => ?_) fun hb11 hF => ?_
   ·refine Zqea ?_
    refine Zqd8 ?_
    refine cl (ok_of (fun _ h hF => F_char_Next_w _ _ h hF) _ hF fun x12 _ hF => ?_)
    refine Zqdt ?_
    refine Zqai ?_
    refine Zqes ?_
    refine C_if rfl hF (fun hb13 hF => ?_) fun hb13 hF => ?_
    ·refine Zqd5 ?_
     refine Zqcf ?_
     replace hF := hG8 _ (F_some hF)
     exact rt
    ·refine Zqfs ?_
     refine Zqb5 ?_
     refine ih10 x12.2.1 _ hF ?_
     exact ⟨oy ok, wy ok⟩
   ·refine Zqcs ?_
    replace hF := hG8 _ (F_some hF)
    exact ⟨(), hF, oy ok, wy ok⟩
 ·rintro ⟨⟩ s' hF ⟨ok, hws⟩
  refine WP_ws hws ?_
  clear hws s'
  refine Zqd6 ?_
  exact rt
theorem F_scan_scanner_here_w (p0 : T_scan_scanner) (p1 : List UInt8) (q0 : Nat) {G : Bool → Prop} (h : Heap) (O : List (Nat × AObj)) (hq0 : q0 ≠ 0) (ok : OK h ((q0, .cells [.sl 1 (List.map c_u8 p0.b) 0, .int .i64 p0.at_]) :: O)) (hF : OptP (F_scan_scanner_here p0 p1) G) : CallsA Tryz.prog 23 [.ptr q0 0, .str p1] (Hp h ((q0, .cells [.sl 1 (List.map c_u8 p0.b) 0, .int .i64 p0.at_]) :: O)) fun d h' => ∃ r, G r ∧ d = .bool r ∧ OK h ((q0, .cells [.sl 1 (List.map c_u8 p0.b) 0, .int .i64 p0.at_]) :: O) ∧ h' = Hp h ((q0, .cells [.sl 1 (List.map c_u8 p0.b) 0, .int .i64 p0.at_]) :: O) := by
 refine CallsA.ret ?_
 refine C_bodyO Tryz.func23 rfl en_23 Tryz.ntmps23 rfl ?_
 rw [F_scan_scanner_here] at hF
 refine Zqdb ?_
 refine Zqab ?_
 refine C_drw (mdl []) (by kernel_rfl) (by kernel_rfl) ?_
 refine Zqf9 ?_
 refine S_slL rfl ty_sl_22 ty_sz_5 (bd_at rfl) bd_len hF (fun x1 _ hF => ?_)
 refine Zqak ?_
 refine Zqbk ?_
 refine cl (ok_of (fun _ h hF => F_bytes_HasPrefix_w _ _ h hF) _ hF fun x2 _ hF => ?_)
 refine Zqcl ?_
 refine rr ?_
 exact ⟨_, _, (.refl _), hy ok, _, F_some hF, rfl, oy ok, rfl⟩
theorem F_scan_scanner_spaces_w (p0 : T_scan_scanner) (p1 : Int) (q0 : Nat) {G : Int → Prop} (h : Heap) (O : List (Nat × AObj)) (hq0 : q0 ≠ 0) (ok : OK h ((q0, .cells [.sl 1 (List.map c_u8 p0.b) 0, .int .i64 p0.at_]) :: O)) (hF : OptP (F_scan_scanner_spaces p0 p1) G) : CallsA Tryz.prog 24 [.ptr q0 0, .int .i64 p1] (Hp h ((q0, .cells [.sl 1 (List.map c_u8 p0.b) 0, .int .i64 p0.at_]) :: O)) fun d h' => ∃ r, G r ∧ d = .int .i64 r ∧ OK h ((q0, .cells [.sl 1 (List.map c_u8 p0.b) 0, .int .i64 p0.at_]) :: O) ∧ h' = Hp h ((q0, .cells [.sl 1 (List.map c_u8 p0.b) 0, .int .i64 p0.at_]) :: O) := by
 refine CallsA.ret ?_
 refine C_bodyO Tryz.func24 rfl en_24 Tryz.ntmps24 rfl ?_
 rw [F_scan_scanner_spaces] at hF
 refine Zqcx ?_
 refine C_join hF (fun (a8 : Int) s' => OK h ((q0, .cells [.sl 1 (List.map c_u8 p0.b) 0, .int .i64 p0.at_]) :: O) ∧ WS s' ⟨mkSl 26 [(1, .int .i64 a8)], Hp h ((q0, .cells [.sl 1 (List.map c_u8 p0.b) 0, .int .i64 p0.at_]) :: O)⟩) (fun J9 hF => ?_) ?_
 ·refine Zqaw ?_
  refine C_loop (σ := Int) hF (fun (a10 : Int) s' => OK h ((q0, .cells [.sl 1 (List.map c_u8 p0.b) 0, .int .i64 p0.at_]) :: O) ∧ WS s' ⟨mkSl 26 [(0, .ptr q0 0), (1, .int .i64 a10)], Hp h ((q0, .cells [.sl 1 (List.map c_u8 p0.b) 0, .int .i64 p0.at_]) :: O)⟩) ?_ ?_
  ·exact ⟨oy ok, wy ok⟩
  ·rintro G11 hG12 rec13 a10 s' ih14 hF ⟨ok, hws⟩
   refine WP_ws hws ?_
   clear hws s'
   rw [F_scan_scanner_spaces_l0] at hF
   refine Zqch ?_
   refine Zqfj ?_
   refine Zqa7 ?_
   refine Zqen ?_
   refine S_twoJ 10 22 hF (fun J16 hb15 hF => ?_) (fun J16 hb15 hF => ?_) (fun v17 hF => ?_)
   ·refine Zqb2 ?_
    refine Zqga ?_
    refine Zqax ?_
    refine Zqb4 ?_
    refine Zqbh ?_
    refine Zqb4 ?_
    refine Zqbi ?_
    refine Zqb4 ?_
    refine Zqcc ?_
    refine S_ix rfl rfl ty_sl_22 ty_sz_5 hF (fun x18 _ hF => ?_)
    refine Zqd4 ?_
    refine Zqb4 ?_
    refine cl (L_IndexByte_ok _ hF fun x19 _ hF => ?_)
    refine Zqb4 ?_
    refine Zqa0 ?_
    refine Zqci ?_
    exact tw
   ·refine Zqck ?_
    refine Zqeh ?_
    exact tw
   ·refine Zqaa ?_
    refine C_if rfl hF (fun hb20 hF => ?_) fun hb20 hF => ?_
    ·refine Zqea ?_
     refine Zqd2 ?_
     refine ih14 (IntKind.wrap .i64 (a10 + (1 : Int))) _ hF ?_
     exact ⟨oy ok, wy ok⟩
    ·refine Zqcs ?_
     replace hF := hG12 _ (F_some hF)
     exact ⟨a10, hF, oy ok, wy ok⟩
 ·rintro a8 s' hF ⟨ok, hws⟩
  refine WP_ws hws ?_
  clear hws s'
  refine Zqec ?_
  refine rr ?_
  exact ⟨_, _, (.refl _), hy ok, _, F_some hF, rfl, oy ok, rfl⟩
theorem F_scan_scanner_sign_w (p0 : T_scan_scanner) (p1 : List UInt8) (q0 : Nat) {G : Int × T_scan_scanner → Prop} (h : Heap) (O : List (Nat × AObj)) (hq0 : q0 ≠ 0) (ok : OK h ((q0, .cells [.sl 1 (List.map c_u8 p0.b) 0, .int .i64 p0.at_]) :: O)) (hF : OptP (F_scan_scanner_sign p0 p1) G) : CallsA Tryz.prog 27 [.ptr q0 0, .str p1] (Hp h ((q0, .cells [.sl 1 (List.map c_u8 p0.b) 0, .int .i64 p0.at_]) :: O)) fun d h' => ∃ r, G r ∧ d = .int .i64 r.1 ∧ OK h ((q0, .cells [.sl 1 (List.map c_u8 r.2.b) 0, .int .i64 r.2.at_]) :: O) ∧ h' = Hp h ((q0, .cells [.sl 1 (List.map c_u8 r.2.b) 0, .int .i64 r.2.at_]) :: O) := by
 refine CallsA.ret ?_
 refine C_bodyO Tryz.func27 rfl en_27 Tryz.ntmps27 rfl ?_
 rw [F_scan_scanner_sign] at hF
 refine Zqgb ?_
 refine Zqcj ?_
 refine Zqak ?_
 refine cl (okT (fun _ hF => F_scan_scanner_here_w _ (p0 := p0) (q0 := q0) h (O) hq0 ok hF) hF fun x1 _ _ _ hq hF => ?_)
 obtain ⟨rfl, ok, rfl⟩ := hq
 refine Zqei ?_
 refine C_if rfl hF (fun hb2 hF => ?_) fun hb2 hF => ?_
 ·refine Zqdo ?_
  refine rr ?_
  exact ⟨_, _, (.refl _), hy ok, _, F_some hF, rfl, oy ok, rfl⟩
 ·refine Zqed ?_
  refine Zqde ?_
  refine Zqe0 ?_
  refine Zqcq ?_
  refine S_st (j := 0) (cs' := [.sl 1 (List.map c_u8 p0.b) 0, .int .i64 (IntKind.wrap .i64 (p0.at_ + (p1.length : Int)))]) ok rfl rfl rfl hq0 rfl ty_sz_3 rfl rfl (fun ok => ?_)
  refine Zqaa ?_
  refine Zqdo ?_
  refine rr ?_
  exact ⟨_, _, (.refl _), hy ok, _, F_some hF, rfl, oy ok, rfl⟩
theorem F_scan_scanner_equals_w (p0 : T_scan_scanner) (q0 : Nat) {G : Int × T_scan_scanner → Prop} (h : Heap) (O : List (Nat × AObj)) (hq0 : q0 ≠ 0) (ok : OK h ((q0, .cells [.sl 1 (List.map c_u8 p0.b) 0, .int .i64 p0.at_]) :: O)) (hF : OptP (F_scan_scanner_equals p0) G) : CallsA Tryz.prog 46 [.ptr q0 0] (Hp h ((q0, .cells [.sl 1 (List.map c_u8 p0.b) 0, .int .i64 p0.at_]) :: O)) fun d h' => ∃ r, G r ∧ d = .int .i64 r.1 ∧ OK h ((q0, .cells [.sl 1 (List.map c_u8 r.2.b) 0, .int .i64 r.2.at_]) :: O) ∧ h' = Hp h ((q0, .cells [.sl 1 (List.map c_u8 r.2.b) 0, .int .i64 r.2.at_]) :: O) := by
 refine CallsA.ret ?_
 refine C_bodyO Tryz.func46 rfl en_46 Tryz.ntmps46 rfl ?_
 rw [F_scan_scanner_equals] at hF
 refine Zqcx ?_
 refine Zqe1 ?_
 refine Zqeb ?_
 refine cl (okT (fun _ hF => F_scan_scanner_spaces_w _ (p0 := p0) (q0 := q0) h (O) hq0 ok hF) hF fun x1 _ _ _ hq hF => ?_)
 obtain ⟨rfl, ok, rfl⟩ := hq
 refine Zqcq ?_
 refine S_st (j := 0) (cs' := [.sl 1 (List.map c_u8 p0.b) 0, .int .i64 x1]) ok rfl rfl rfl hq0 rfl ty_sz_3 rfl rfl (fun ok => ?_)
 refine Zqdx ?_
 refine cl (okT (fun _ hF => F_scan_scanner_sign_w _ (p0 := (⟨p0.b, x1⟩ : T_scan_scanner)) (q0 := q0) h (O) hq0 ok hF) hF fun x2 _ _ _ hq hF => ?_)
 obtain ⟨rfl, ok, rfl⟩ := hq
 refine Zqb5 ?_
 refine Zqe1 ?_
 refine Zqeb ?_
 refine cl (okT (fun _ hF => F_scan_scanner_spaces_w _ (p0 := x2.2) (q0 := q0) h (O) hq0 ok hF) hF fun x3 _ _ _ hq hF => ?_)
 obtain ⟨rfl, ok, rfl⟩ := hq
 refine Zqcq ?_
 refine S_st (j := 0) (cs' := [.sl 1 (List.map c_u8 x2.2.b) 0, .int .i64 x3]) ok rfl rfl rfl hq0 rfl ty_sz_3 rfl rfl (fun ok => ?_)
 refine Zqaa ?_
 refine Zqec ?_
 refine rr ?_
 exact ⟨_, _, (.refl _), hy ok, _, F_some hF, rfl, oy ok, rfl⟩
theorem F_scan_scanner_quoted_w (p0 : T_scan_scanner) (q0 : Nat) {G : ((List UInt8) × Int) × T_scan_scanner → Prop} (h : Heap) (O : List (Nat × AObj)) (hq0 : q0 ≠ 0) (ok : OK h ((q0, .cells [.sl 1 (List.map c_u8 p0.b) 0, .int .i64 p0.at_]) :: O)) (hF : OptP (F_scan_scanner_quoted p0) G) : CallsA Tryz.prog 47 [.ptr q0 0] (Hp h ((q0, .cells [.sl 1 (List.map c_u8 p0.b) 0, .int .i64 p0.at_]) :: O)) fun d h' => ∃ r, G r ∧ d = .tup [.sl 1 (List.map c_u8 r.1.1) 0, .int .i64 r.1.2] ∧ OK h ((q0, .cells [.sl 1 (List.map c_u8 r.2.b) 0, .int .i64 r.2.at_]) :: O) ∧ h' = Hp h ((q0, .cells [.sl 1 (List.map c_u8 r.2.b) 0, .int .i64 r.2.at_]) :: O) := by
 refine CallsA.ret ?_
 refine C_bodyO Tryz.func47 rfl en_47 Tryz.ntmps47 rfl ?_
 rw [F_scan_scanner_quoted] at hF
 refine Zqb1 ?_
 refine S_a (v := .snil) rfl ?_
 refine S_one 2 (v := .sl 1 (List.map c_u8 ([] : List UInt8)) 0) (.nil _) ?_
 refine Zqeu ?_
 refine Zqcj ?_
 refine cl (okT (fun _ hF => F_scan_scanner_here_w _ (p0 := p0) (q0 := q0) h (O) hq0 ok hF) hF fun x1 _ _ _ hq hF => ?_)
 obtain ⟨rfl, ok, rfl⟩ := hq
 refine Zqa6 ?_
 refine Zqam ?_
 refine S_twoJ 4 13 hF (fun J3 hb2 hF => ?_) (fun J3 hb2 hF => ?_) (fun v4 hF => ?_)
 ·refine Zqb2 ?_
  refine Zqga ?_
  refine cl (okT (fun _ hF => F_scan_scanner_here_w _ (p0 := p0) (q0 := q0) h (O) hq0 ok hF) hF fun x5 _ _ _ hq hF => ?_)
  obtain ⟨rfl, ok, rfl⟩ := hq
  refine Zqgc ?_
  exact tw
 ·refine Zqeq ?_
  exact tw
 ·refine Zqaa ?_
  refine C_if rfl hF (fun hb6 hF => ?_) fun hb6 hF => ?_
  ·refine Zqb1 ?_
   refine S_a (v := .snil) rfl ?_
   refine S_one 2 (v := .sl 1 (List.map c_u8 ([] : List UInt8)) 0) (.nil _) ?_
   refine Zqca ?_
   refine rr ?_
   exact ⟨_, _, (.tupC (.cons (.refl _) (.cons (.refl _) (.nil)))), hy ok, _, F_some hF, rfl, oy ok, rfl⟩
  ·refine Zqc2 ?_
   refine C_drw (mdl []) (by kernel_rfl) (by kernel_rfl) ?_
   refine Zqf9 ?_
   refine Zqat ?_
   refine S_slL rfl ty_sl_22 ty_sz_5 (bd_at rfl) bd_len hF (fun x7 _ hF => ?_)
   refine Zqbb ?_
   refine Zqdi ?_
   refine C_drw (mdl [(34, 3)]) (by kernel_rfl) (by kernel_rfl) ?_
   refine Zqas ?_
   refine Zqf9 ?_
   refine S_ix rfl rfl ty_sl_22 ty_sz_5 hF (fun x8 _ hF => ?_)
   refine Zqbc ?_
   refine cl (L_bIndexByte_ok _ hF fun x9 _ hF => ?_)
   refine Zqgd ?_
   refine C_if rfl hF (fun hb10 hF => ?_) fun hb10 hF => ?_
   ·refine Zqb1 ?_
    refine S_a (v := .snil) rfl ?_
    refine S_one 2 (v := .sl 1 (List.map c_u8 ([] : List UInt8)) 0) (.nil _) ?_
    refine Zqca ?_
    refine rr ?_
    exact ⟨_, _, (.tupC (.cons (.refl _) (.cons (.refl _) (.nil)))), hy ok, _, F_some hF, rfl, oy ok, rfl⟩
   ·refine Zqed ?_
    refine Zqde ?_
    refine Zqcm ?_
    refine Zqge ?_
    refine S_st (j := 0) (cs' := [.sl 1 (List.map c_u8 p0.b) 0, .int .i64 (IntKind.wrap .i64 (p0.at_ + (IntKind.wrap .i64 (x9 + (2 : Int)))))]) ok rfl rfl rfl hq0 rfl ty_sz_3 rfl rfl (fun ok => ?_)
    refine Zqaa ?_
    refine Zqd8 ?_
    refine S_slL rfl ty_sl_22 ty_sz_5 bd_no (bd_at rfl) hF (fun x11 _ hF => ?_)
    refine Zqbb ?_
    refine Zqca ?_
    refine rr ?_
    exact ⟨_, _, (.tupC (.cons (.refl _) (.cons (.refl _) (.nil)))), hy ok, _, F_some hF, rfl, oy ok, rfl⟩
theorem F_stringslite_HasPrefix_w (p0 : List UInt8) (p1 : List UInt8) {G : Bool → Prop} (h : Heap) (hF : OptP (F_stringslite_HasPrefix p0 p1) G) : CallsA Tryz.prog 105 [.str p0, .str p1] h fun d h' => ∃ r, G r ∧ d = .bool r ∧ h' = h := by
 refine CallsA.ret ?_
 refine C_body Tryz.func105 rfl en_105 Tryz.ntmps105 rfl (fun ok => ?_)
 rw [F_stringslite_HasPrefix] at hF
 refine Zqdb ?_
 refine Zqcd ?_
 refine Zqa9 ?_
 refine Zqdg ?_
 refine Zqc6 ?_
 refine S_twoJ 7 17 hF (fun J2 hb1 hF => ?_) (fun J2 hb1 hF => ?_) (fun v3 hF => ?_)
 ·refine Zqc1 ?_
  refine Zqcr ?_
  refine Zqa9 ?_
  refine Zqb4 ?_
  refine S_slS rfl ty_st_9 bd_no (bd_at rfl) hF (fun x4 _ hF => ?_)
  refine Zqb4 ?_
  refine Zqcr ?_
  refine Zqgf ?_
  exact tw
 ·refine Zqf3 ?_
  exact tw
 ·refine Zqcl ?_
  exact rt
theorem F_stringslite_CutPrefix_w (p0 : List UInt8) (p1 : List UInt8) {G : (List UInt8) × Bool → Prop} (h : Heap) (hF : OptP (F_stringslite_CutPrefix p0 p1) G) : CallsA Tryz.prog 89 [.str p0, .str p1] h fun d h' => ∃ r, G r ∧ d = .tup [.str r.1, .bool r.2] ∧ h' = h := by
 refine CallsA.ret ?_
 refine C_body Tryz.func89 rfl en_89 Tryz.ntmps89 rfl (fun ok => ?_)
 rw [F_stringslite_CutPrefix] at hF
 refine Zqb1 ?_
 refine S_a (v := .str ([] : List UInt8)) rfl ?_
 refine Zqcb ?_
 refine Zqe2 ?_
 refine Zqak ?_
 refine cl (ok_of (fun _ h hF => F_stringslite_HasPrefix_w _ _ h hF) _ hF fun x1 _ hF => ?_)
 refine Zqei ?_
 refine C_if rfl hF (fun hb2 hF => ?_) fun hb2 hF => ?_
 ·refine Zqcd ?_
  refine Zqft ?_
  exact rt
 ·refine Zqeo ?_
  refine Zqdg ?_
  refine S_slS rfl ty_st_9 (bd_at rfl) bd_no hF (fun x3 _ hF => ?_)
  refine Zqft ?_
  exact rt
theorem F_strings_CutPrefix_w (p0 : List UInt8) (p1 : List UInt8) {G : (List UInt8) × Bool → Prop} (h : Heap) (hF : OptP (F_strings_CutPrefix p0 p1) G) : CallsA Tryz.prog 69 [.str p0, .str p1] h fun d h' => ∃ r, G r ∧ d = .tup [.str r.1, .bool r.2] ∧ h' = h := by
 refine CallsA.ret ?_
 refine C_body Tryz.func69 rfl en_69 Tryz.ntmps69 rfl (fun ok => ?_)
 rw [F_strings_CutPrefix] at hF
 refine Zqb1 ?_
 refine S_a (v := .str ([] : List UInt8)) rfl ?_
 refine Zqcb ?_
 refine Zqcd ?_
 refine Zqak ?_
 refine cl (ok_of (fun _ h hF => F_stringslite_CutPrefix_w _ _ h hF) _ hF fun x1 _ hF => ?_)
 refine Zqco ?_
 refine Zqft ?_
 exact rt
theorem F_scan_fits_w (p0 : List UInt8) (p1 : List UInt8) {G : Bool → Prop} (h : Heap) (hF : OptP (F_scan_fits p0 p1) G) : CallsA Tryz.prog 48 [.str p0, .str p1] h fun d h' => ∃ r, G r ∧ d = .bool r ∧ h' = h := by
 refine CallsA.ret ?_
 refine C_body Tryz.func48 rfl en_48 Tryz.ntmps48 rfl (fun ok => ?_)
 rw [F_scan_fits] at hF
 refine Zqdb ?_
 refine Zqe2 ?_
 refine Zqaa ?_
 refine Zqaw ?_
 refine Zqfv ?_
 refine C_if rfl hF (fun hb1 hF => ?_) fun hb1 hF => ?_
 ·refine Zqcd ?_
  refine cl (ok_of (fun _ h hF => F_strings_CutPrefix_w _ _ h hF) _ hF fun x2 _ hF => ?_)
  refine Zqfk ?_
  refine Zqcb ?_
  refine Zqe3 ?_
  refine Zqam ?_
  refine S_two (b := x2.2) 3 19 (.bool (x2.2 && (!(x2.1 == ([] : List UInt8))))) (fun hb3 => ?_) (fun hb3 => ?_) ?_
  ·refine Zqc1 ?_
   refine Zqbp ?_
   refine Zqci ?_
   exact th
  ·refine Zqcv ?_
   exact th
  refine Zqam ?_
  refine S_twoJ 4 24 hF (fun J5 hb4 hF => ?_) (fun J5 hb4 hF => ?_) (fun v6 hF => ?_)
  ·refine Zqc1 ?_
   refine cl (L_Trim_ok _ hF fun x7 _ hF => ?_)
   refine Zqb4 ?_
   refine Zqgf ?_
   exact tw
  ·refine Zqeq ?_
   exact tw
  ·refine Zqcl ?_
   exact rt
 ·refine Zqfv ?_
  refine C_if rfl hF (fun hb8 hF => ?_) fun hb8 hF => ?_
  ·refine Zqcd ?_
   refine Zqbp ?_
   refine Zqam ?_
   refine S_twoJ 5 34 hF (fun J10 hb9 hF => ?_) (fun J10 hb9 hF => ?_) (fun v11 hF => ?_)
   ·refine Zqc1 ?_
    refine S_ixS rfl rfl ty_st_9 hF (fun x12 _ hF => ?_)
    refine Zqb4 ?_
    refine cl (L_IndexByte_ok _ hF fun x13 _ hF => ?_)
    refine Zqb4 ?_
    refine Zqa0 ?_
    refine Zqci ?_
    exact tw
   ·refine Zqev ?_
    exact tw
   ·refine Zqam ?_
    refine S_twoJ 4 39 hF (fun J15 hb14 hF => ?_) (fun J15 hb14 hF => ?_) (fun v16 hF => ?_)
    ·refine Zqc1 ?_
     refine cl (L_Trim_ok _ hF fun x17 _ hF => ?_)
     refine Zqb4 ?_
     refine Zqgf ?_
     exact tw
    ·refine Zqeq ?_
     exact tw
    ·refine Zqcl ?_
     exact rt
  ·refine Zqeo ?_
   refine Zqba ?_
   refine Zqam ?_
   refine S_two (b := (p1 == ([121, 101, 115] : List UInt8))) 3 45 (.bool ((p1 == ([121, 101, 115] : List UInt8)) || (p1 == ([110, 111] : List UInt8)))) (fun hb18 => ?_) (fun hb18 => ?_) ?_
   ·refine Zqc9 ?_
    exact th
   ·refine Zqc1 ?_
    refine Zqba ?_
    refine Zqcp ?_
    exact th
   refine Zqcl ?_
   exact rt
theorem F_strings_EqualFold_w (p0 : List UInt8) (p1 : List UInt8) {G : Bool → Prop} (h : Heap) (hF : OptP (F_strings_EqualFold p0 p1) G) : CallsA Tryz.prog 49 [.str p0, .str p1] h fun d h' => ∃ r, G r ∧ d = .bool r ∧ h' = h := by
 refine CallsA.ret ?_
 refine C_body Tryz.func49 rfl en_49 Tryz.ntmps49 rfl (fun ok => ?_)
 rw [F_strings_EqualFold] at hF
 refine Zqdb ?_
 refine WP_scope ?_
 refine JW_step ?_
 refine C_fjoin 0 rfl hF (fun (a49 : Int) s' => OK h [] ∧ WS s' ⟨mkSl 123 [(0, .str p0), (1, .str p1), (5, .int .i64 a49)], Hp h []⟩) ?_ ?_
 ·rintro a49 s' hF ⟨ok, hws⟩
  refine WP_ws hws ?_
  clear hws s'
  refine Zqct ?_
  refine S_slS rfl ty_st_9 (bd_at rfl) bd_no hF (fun x52 _ hF => ?_)
  refine Zqe4 ?_
  refine Zqct ?_
  refine S_slS rfl ty_st_9 (bd_at rfl) bd_no hF (fun x53 _ hF => ?_)
  refine Zqe4 ?_
  refine C_join hF (fun (a80 : (List UInt8)) s' => OK h [] ∧ WS s' ⟨mkSl 123 [(1, .str a80)], Hp h []⟩) (fun J81 hF => ?_) ?_
  ·refine Zqcd ?_
   refine S_rng ok rfl ty_st_9 ?_
   intro i82 hi82 ok
   refine Zqaa ?_
   refine Zqaw ?_
   refine C_loop (σ := (List UInt8) × Nat) hF (fun (v : (List UInt8) × Nat) s' => match v with | (a83, a84) => OK h [(i82, .iter x52 a84)] ∧ WS s' ⟨mkSl 123 [(1, .str a83), (67, .ptr i82 0)], Hp h [(i82, .iter x52 a84)]⟩) ?_ ?_
   ·exact ⟨oy ok, wy ok⟩
   ·rintro G85 hG86 rec87 ⟨a83, a84⟩ s' ih88 hF ⟨ok, hws⟩
    refine WP_ws hws ?_
    clear hws s'
    rw [F_strings_EqualFold_l0] at hF
    refine Zqb1 ?_
    refine S_nxt (j := 0) ok rfl rfl hi82 hF (fun _ ok hF => ?_) (fun hF => ?_)
    ·refine Zqar ?_
     refine Zqdi ?_
     refine C_tt rfl rfl ?_
     refine Zqea ?_
     refine Zqb1 ?_
     refine Zqar ?_
     refine Zqeu ?_
     refine Zqcd ?_
     refine Zqa9 ?_
     refine Zqdy ?_
     refine C_if rfl hF (fun hb89 hF => ?_) fun hb89 hF => ?_
     ·refine Zqdc ?_
      replace hF := hG86 _ (F_some hF)
      exact rt
     ·refine Zqeo ?_
      refine cl (L_DecodeRuneInString_ok _ hF fun x90 _ hF => ?_)
      refine Zqcw ?_
      refine Zqcn ?_
      refine Zqct ?_
      refine S_slS rfl ty_st_9 (bd_at rfl) bd_no hF (fun x91 _ hF => ?_)
      refine Zqe4 ?_
      refine Zqer ?_
      refine Zqdy ?_
      refine C_if rfl hF (fun hb92 hF => ?_) fun hb92 hF => ?_
      ·refine Zqcs ?_
       refine ih88 (x91, (a84 + wdS x52 a84)) _ hF ?_
       exact ⟨oy ok, wy ok⟩
      ·refine Zqal ?_
       refine C_join hF (fun (v : Int × Int) s' => match v with | (a94, a95) => OK h [(i82, .iter x52 (a84 + wdS x52 a84))] ∧ WS s' ⟨mkSl 123 [(1, .str x91), (10, .int .i32 a94), (11, .int .i32 a95), (67, .ptr i82 0)], Hp h [(i82, .iter x52 (a84 + wdS x52 a84))]⟩) (fun J96 hF => ?_) ?_
       ·refine Zqd5 ?_
        refine Zqc0 ?_
        refine C_if rfl hF (fun hb97 hF => ?_) fun hb97 hF => ?_
        ·refine Zqdj ?_
         refine Zqah ?_
         refine Zqcn ?_
         exact ⟨(x90.1, (rnS x52 a84)), hF, oy ok, wy ok⟩
        ·refine Zqal ?_
         exact ⟨((rnS x52 a84), x90.1), hF, oy ok, wy ok⟩
       ·rintro ⟨a94, a95⟩ s' hF ⟨ok, hws⟩
        refine WP_ws hws ?_
        clear hws s'
        refine Zqch ?_
        refine Zqc0 ?_
        refine C_if rfl hF (fun hb98 hF => ?_) fun hb98 hF => ?_
        ·refine Zqch ?_
         refine Zqa8 ?_
         refine Zqam ?_
         refine S_two (b := (decide ((65 : Int) ≤ a94))) 3 97 (.bool ((decide ((65 : Int) ≤ a94)) && (decide (a94 ≤ (90 : Int))))) (fun hb99 => ?_) (fun hb99 => ?_) ?_
         ·refine Zqdm ?_
          exact th
         ·refine Zqcv ?_
          exact th
         refine Zqam ?_
         refine S_two (b := ((decide ((65 : Int) ≤ a94)) && (decide (a94 ≤ (90 : Int))))) 6 104 (.bool (((decide ((65 : Int) ≤ a94)) && (decide (a94 ≤ (90 : Int)))) && (a95 == (IntKind.wrap .i32 ((IntKind.wrap .i32 (a94 + (97 : Int))) - (65 : Int)))))) (fun hb100 => ?_) (fun hb100 => ?_) ?_
         ·refine Zqce ?_
          refine Zqcc ?_
          refine Zqe5 ?_
          refine Zqbf ?_
          refine Zqel ?_
          exact th
         ·refine Zqeh ?_
          exact th
         refine Zqaa ?_
         refine C_if rfl hF (fun hb101 hF => ?_) fun hb101 hF => ?_
         ·refine Zqcs ?_
          refine ih88 (x91, (a84 + wdS x52 a84)) _ hF ?_
          exact ⟨oy ok, wy ok⟩
         ·refine Zqal ?_
          refine Zqdc ?_
          replace hF := hG86 _ (F_some hF)
          exact rt
        ·refine Zqfl ?_
         refine cl (L_SimpleFold_ok _ hF fun x102 _ hF => ?_)
         refine Zqb5 ?_
         refine C_join hF (fun (a107 : Int) s' => OK h [(i82, .iter x52 (a84 + wdS x52 a84))] ∧ WS s' ⟨mkSl 123 [(1, .str x91), (11, .int .i32 a95), (13, .int .i32 a107), (67, .ptr i82 0)], Hp h [(i82, .iter x52 (a84 + wdS x52 a84))]⟩) (fun J108 hF => ?_) ?_
         ·refine Zqaw ?_
          refine C_loop (σ := Int) hF (fun (a109 : Int) s' => OK h [(i82, .iter x52 (a84 + wdS x52 a84))] ∧ WS s' ⟨mkSl 123 [(1, .str x91), (10, .int .i32 a94), (11, .int .i32 a95), (13, .int .i32 a109), (67, .ptr i82 0)], Hp h [(i82, .iter x52 (a84 + wdS x52 a84))]⟩) ?_ ?_
          ·exact ⟨oy ok, wy ok⟩
          ·rintro G110 hG111 rec112 a109 s' ih113 hF ⟨ok, hws⟩
           refine WP_ws hws ?_
           clear hws s'
           rw [F_strings_EqualFold_l1] at hF
           refine Zqer ?_
           refine Zqgg ?_
           refine S_two (b := (a109 != a94)) 4 114 (.bool ((a109 != a94) && (decide (a109 < a95)))) (fun hb114 => ?_) (fun hb114 => ?_) ?_
           ·refine Zqce ?_
            refine Zqcc ?_
            refine Zqf7 ?_
            exact th
           ·refine Zqeq ?_
            exact th
           refine Zqaa ?_
           refine C_if rfl hF (fun hb115 hF => ?_) fun hb115 hF => ?_
           ·refine Zqea ?_
            refine Zqdj ?_
            refine cl (L_SimpleFold_ok _ hF fun x116 _ hF => ?_)
            refine Zqb5 ?_
            refine ih113 x116 _ hF ?_
            exact ⟨oy ok, wy ok⟩
           ·refine Zqcs ?_
            replace hF := hG111 _ (F_some hF)
            exact ⟨a109, hF, oy ok, wy ok⟩
         ·rintro a107 s' hF ⟨ok, hws⟩
          refine WP_ws hws ?_
          clear hws s'
          refine Zqer ?_
          refine Zqdy ?_
          refine C_if rfl hF (fun hb117 hF => ?_) fun hb117 hF => ?_
          ·refine Zqcs ?_
           refine ih88 (x91, (a84 + wdS x52 a84)) _ hF ?_
           exact ⟨oy ok, wy ok⟩
          ·refine Zqal ?_
           refine Zqdc ?_
           replace hF := hG86 _ (F_some hF)
           exact rt
    ·refine Zqar ?_
     refine Zqdi ?_
     refine C_ff rfl rfl ?_
     refine Zqcs ?_
     replace hF := hG86 _ (F_some hF)
     exact ⟨a83, hF, oy ok, wy ok⟩
  ·rintro a80 s' hF ⟨ok, hws⟩
   refine WP_ws hws ?_
   clear hws s'
   refine Zqcd ?_
   refine Zqa9 ?_
   refine Zqau ?_
   refine Zqcl ?_
   exact rt
 ·intro J50 hJ51 hF
  refine Zqcx ?_
  refine C_join hF (fun (_ : Unit) s' => OK h [] ∧ WS s' ⟨mkSl 123 [(0, .str p0), (1, .str p1)], Hp h []⟩) (fun J142 hF => ?_) ?_
  ·refine Zqcd ?_
   refine Zqa9 ?_
   refine Zqdg ?_
   refine S_min rfl rfl ?_
   refine Zqb5 ?_
   refine Zqaw ?_
   refine C_loop (σ := Int) hF (fun (a143 : Int) s' => OK h [] ∧ WS s' ⟨mkSl 123 [(0, .str p0), (1, .str p1), (5, .int .i64 a143), (6, .int .i64 (if (p1.length : Int) < (p0.length : Int) then (p1.length : Int) else (p0.length : Int)))], Hp h []⟩) ?_ ?_
   ·exact ⟨oy ok, wy ok⟩
   ·rintro G144 hG145 rec146 a143 s' ih147 hF ⟨ok, hws⟩
    refine WP_ws hws ?_
    clear hws s'
    rw [F_strings_EqualFold_l2] at hF
    refine Zqer ?_
    refine Zqc0 ?_
    refine C_if rfl hF (fun hb148 hF => ?_) fun hb148 hF => ?_
    ·refine Zqal ?_
     refine C_join hF (fun (_ : Unit) s' => OK h [] ∧ WS s' ⟨mkSl 123 [(0, .str p0), (1, .str p1), (5, .int .i64 a143), (6, .int .i64 (if (p1.length : Int) < (p0.length : Int) then (p1.length : Int) else (p0.length : Int)))], Hp h []⟩) (fun J160 hF => ?_) ?_
     ·refine Zqaw ?_
      refine Zqct ?_
      refine S_ixS rfl rfl ty_st_9 hF (fun x161 _ hF => ?_)
      refine Zqb5 ?_
      refine Zqct ?_
      refine S_ixS rfl rfl ty_st_9 hF (fun x162 _ hF => ?_)
      refine Zqdu ?_
      refine Zqah ?_
      refine S_bin rfl rfl (e_or ..) ?_
      refine Zqa0 ?_
      refine Zqaa ?_
      refine C_if rfl hF (fun hb163 hF => ?_) fun hb163 hF => ?_
      ·refine WP_goto ?_
       repeat (first | with_reducible refine Exit.sel_goto ?_ | with_reducible refine Exit.blk_goto ?_)
       refine jmp_goto rfl ?_
       replace hF := hG145 _ (F_some hF)
       refine hJ51 a143 _ hF ?_
       exact ⟨oy ok, wy ok⟩
      ·refine Zqal ?_
       refine Zqer ?_
       refine Zqdy ?_
       refine C_if rfl hF (fun hb164 hF => ?_) fun hb164 hF => ?_
       ·refine Zqcs ?_
        exact ⟨(), hF, oy ok, wy ok⟩
       ·refine Zqal ?_
        refine C_join hF (fun (v : Int × Int) s' => match v with | (a166, a167) => OK h [] ∧ WS s' ⟨mkSl 123 [(0, .str p0), (1, .str p1), (5, .int .i64 a143), (6, .int .i64 (if (p1.length : Int) < (p0.length : Int) then (p1.length : Int) else (p0.length : Int))), (7, .int .u8 a166), (8, .int .u8 a167)], Hp h []⟩) (fun J168 hF => ?_) ?_
        ·refine Zqd5 ?_
         refine Zqc0 ?_
         refine C_if rfl hF (fun hb169 hF => ?_) fun hb169 hF => ?_
         ·refine Zqdj ?_
          refine Zqah ?_
          refine Zqcn ?_
          exact ⟨((x162.toNat : Int), (x161.toNat : Int)), hF, oy ok, wy ok⟩
         ·refine Zqal ?_
          exact ⟨((x161.toNat : Int), (x162.toNat : Int)), hF, oy ok, wy ok⟩
        ·rintro ⟨a166, a167⟩ s' hF ⟨ok, hws⟩
         refine WP_ws hws ?_
         clear hws s'
         refine Zqch ?_
         refine Zqa8 ?_
         refine Zqam ?_
         refine S_two (b := (decide ((65 : Int) ≤ a166))) 3 47 (.bool ((decide ((65 : Int) ≤ a166)) && (decide (a166 ≤ (90 : Int))))) (fun hb170 => ?_) (fun hb170 => ?_) ?_
         ·refine Zqdm ?_
          exact th
         ·refine Zqcv ?_
          exact th
         refine Zqam ?_
         refine S_two (b := ((decide ((65 : Int) ≤ a166)) && (decide (a166 ≤ (90 : Int))))) 6 54 (.bool (((decide ((65 : Int) ≤ a166)) && (decide (a166 ≤ (90 : Int)))) && (a167 == (IntKind.wrap .u8 ((IntKind.wrap .u8 (a166 + (97 : Int))) - (65 : Int)))))) (fun hb171 => ?_) (fun hb171 => ?_) ?_
         ·refine Zqce ?_
          refine Zqcc ?_
          refine Zqe5 ?_
          refine Zqbf ?_
          refine Zqel ?_
          exact th
         ·refine Zqeh ?_
          exact th
         refine Zqaa ?_
         refine C_if rfl hF (fun hb172 hF => ?_) fun hb172 hF => ?_
         ·refine Zqcs ?_
          exact ⟨(), hF, oy ok, wy ok⟩
         ·refine Zqal ?_
          refine Zqdc ?_
          replace hF := hG145 _ (F_some hF)
          exact rt
     ·rintro ⟨⟩ s' hF ⟨ok, hws⟩
      refine WP_ws hws ?_
      clear hws s'
      refine Zqd2 ?_
      refine ih147 (IntKind.wrap .i64 (a143 + (1 : Int))) _ hF ?_
      exact ⟨oy ok, wy ok⟩
    ·refine Zqcs ?_
     replace hF := hG145 _ (F_some hF)
     exact ⟨(), hF, oy ok, wy ok⟩
  ·rintro ⟨⟩ s' hF ⟨ok, hws⟩
   refine WP_ws hws ?_
   clear hws s'
   refine Zqe2 ?_
   refine Zqa9 ?_
   refine Zqdg ?_
   refine Zqau ?_
   refine Zqcl ?_
   exact rt
theorem F_scan_scanner_decl_w (p0 : T_scan_scanner) (p1 : T_scan_Token) (q0 : Nat) (q1 : Nat) (b1_3 : Nat) {G : Int × T_scan_scanner × T_scan_Token → Prop} (h : Heap) (O : List (Nat × AObj)) (hq0 : q0 ≠ 0) (hq1 : q1 ≠ 0) (zb1_3 : b1_3 = 0 → p1.Pairs = []) (ok : OK h ((q0, .cells [.sl 1 (List.map c_u8 p0.b) 0, .int .i64 p0.at_]) :: (q1, .cells [.int .i64 p1.Kind, .int .i64 p1.At, .str p1.Name, mslO 2 b1_3 p1.Pairs, .str p1.Text, .int .i64 p1.Refs]) :: mo b1_3 c_T_scan_Pair p1.Pairs :: O)) (hF : OptP (F_scan_scanner_decl p0 p1) G) : CallsA Tryz.prog 25 [.ptr q0 0, .ptr q1 0] (Hp h ((q0, .cells [.sl 1 (List.map c_u8 p0.b) 0, .int .i64 p0.at_]) :: (q1, .cells [.int .i64 p1.Kind, .int .i64 p1.At, .str p1.Name, mslO 2 b1_3 p1.Pairs, .str p1.Text, .int .i64 p1.Refs]) :: mo b1_3 c_T_scan_Pair p1.Pairs :: O)) fun d h' => ∃ r, G r ∧ d = .int .i64 r.1 ∧ ∃ b1_3' : Nat, (b1_3' = 0 → r.2.2.Pairs = []) ∧ OK h ((q0, .cells [.sl 1 (List.map c_u8 r.2.1.b) 0, .int .i64 r.2.1.at_]) :: (q1, .cells [.int .i64 r.2.2.Kind, .int .i64 r.2.2.At, .str r.2.2.Name, mslO 2 b1_3' r.2.2.Pairs, .str r.2.2.Text, .int .i64 r.2.2.Refs]) :: mo b1_3' c_T_scan_Pair r.2.2.Pairs :: O) ∧ h' = Hp h ((q0, .cells [.sl 1 (List.map c_u8 r.2.1.b) 0, .int .i64 r.2.1.at_]) :: (q1, .cells [.int .i64 r.2.2.Kind, .int .i64 r.2.2.At, .str r.2.2.Name, mslO 2 b1_3' r.2.2.Pairs, .str r.2.2.Text, .int .i64 r.2.2.Refs]) :: mo b1_3' c_T_scan_Pair r.2.2.Pairs :: O) := by
 refine CallsA.ret ?_
 refine C_bodyO Tryz.func25 rfl en_25 Tryz.ntmps25 rfl ?_
 rw [F_scan_scanner_decl] at hF
 refine Zqcx ?_
 refine Zqfw ?_
 refine S_st (j := 1) (cs' := [.int .i64 (1 : Int), .int .i64 p1.At, .str p1.Name, mslO 2 b1_3 p1.Pairs, .str p1.Text, .int .i64 p1.Refs]) ok rfl rfl rfl hq1 rfl ty_sz_3 rfl rfl (fun ok => ?_)
 refine Zqdx ?_
 refine Zqcq ?_
 refine S_st (j := 0) (cs' := [.sl 1 (List.map c_u8 p0.b) 0, .int .i64 (5 : Int)]) ok rfl rfl rfl hq0 rfl ty_sz_3 rfl rfl (fun ok => ?_)
 refine Zqaa ?_
 refine Zqb1 ?_
 refine S_a (v := .str ([] : List UInt8)) rfl ?_
 refine Zqaa ?_
 refine C_join hF (fun (v : (List UInt8) × Int × (List UInt8) × Int × Int × (List UInt8) × (List T_scan_Pair) × (List UInt8) × Int) s' => match v with | (a58, a59, a60, a61, a62, a63, a65, a66, a67) => ∃ g64 : Nat, (g64 = 0 → a65 = []) ∧ OK h ((q0, .cells [.sl 1 (List.map c_u8 a58) 0, .int .i64 a59]) :: (q1, .cells [.int .i64 a61, .int .i64 a62, .str a63, mslO 2 g64 a65, .str a66, .int .i64 a67]) :: mo g64 c_T_scan_Pair a65 :: O) ∧ WS s' ⟨mkSl 113 [(0, .ptr q0 0), (5, .str a60)], Hp h ((q0, .cells [.sl 1 (List.map c_u8 a58) 0, .int .i64 a59]) :: (q1, .cells [.int .i64 a61, .int .i64 a62, .str a63, mslO 2 g64 a65, .str a66, .int .i64 a67]) :: mo g64 c_T_scan_Pair a65 :: O)⟩) (fun J68 hF => ?_) ?_
 ·refine Zqb1 ?_
  refine S_lit0 (cs := [.str ([118, 101, 114, 115, 105, 111, 110] : List UInt8), .str ([101, 110, 99, 111, 100, 105, 110, 103] : List UInt8), .str ([115, 116, 97, 110, 100, 97, 108, 111, 110, 101] : List UInt8)]) (es := (List.map c_str [([118, 101, 114, 115, 105, 111, 110] : List UInt8), ([101, 110, 99, 111, 100, 105, 110, 103] : List UInt8), ([115, 116, 97, 110, 100, 97, 108, 111, 110, 101] : List UInt8)])) rfl ty_el_77 rfl (by kernel_rfl) (by kernel_rfl) ?_
  refine S_lenL rfl ty_sl_77 ?_
  refine Zqfc ?_
  refine C_loop (σ := (List UInt8) × Int × Int × Int × (List UInt8) × (List T_scan_Pair) × (List UInt8) × Int × (List UInt8) × Int) hF (fun (v : (List UInt8) × Int × Int × Int × (List UInt8) × (List T_scan_Pair) × (List UInt8) × Int × (List UInt8) × Int) s' => match v with | (a69, a70, a71, a72, a73, a75, a76, a77, a78, a79) => ∃ g74 : Nat, (g74 = 0 → a75 = []) ∧ OK h ((q0, .cells [.sl 1 (List.map c_u8 a69) 0, .int .i64 a70]) :: (q1, .cells [.int .i64 a71, .int .i64 a72, .str a73, mslO 2 g74 a75, .str a76, .int .i64 a77]) :: mo g74 c_T_scan_Pair a75 :: O) ∧ WS s' ⟨mkSl 113 [(0, .ptr q0 0), (1, .ptr q1 0), (5, .str a78), (18, .sl 1 (List.map c_str [([118, 101, 114, 115, 105, 111, 110] : List UInt8), ([101, 110, 99, 111, 100, 105, 110, 103] : List UInt8), ([115, 116, 97, 110, 100, 97, 108, 111, 110, 101] : List UInt8)]) 0), (19, .int .i64 ([([118, 101, 114, 115, 105, 111, 110] : List UInt8), ([101, 110, 99, 111, 100, 105, 110, 103] : List UInt8), ([115, 116, 97, 110, 100, 97, 108, 111, 110, 101] : List UInt8)].length : Int)), (20, .int .i64 a79)], Hp h ((q0, .cells [.sl 1 (List.map c_u8 a69) 0, .int .i64 a70]) :: (q1, .cells [.int .i64 a71, .int .i64 a72, .str a73, mslO 2 g74 a75, .str a76, .int .i64 a77]) :: mo g74 c_T_scan_Pair a75 :: O)⟩) ?_ ?_
  ·exact ⟨b1_3, zb1_3, oy ok, wy ok⟩
  ·rintro G80 hG81 rec82 ⟨a69, a70, a71, a72, a73, a75, a76, a77, a78, a79⟩ s' ih83 hF ⟨g74, zg74, ok, hws⟩
   refine WP_ws hws ?_
   clear hws s'
   rw [F_scan_scanner_decl_l0] at hF
   refine Zqfe ?_
   refine C_if rfl hF (fun hb84 hF => ?_) fun hb84 hF => ?_
   ·refine Zqal ?_
    refine C_join hF (fun (v : (List UInt8) × Int × (List T_scan_Pair) × (List UInt8)) s' => match v with | (a105, a106, a108, a109) => ∃ g107 : Nat, (g107 = 0 → a108 = []) ∧ OK h ((q0, .cells [.sl 1 (List.map c_u8 a105) 0, .int .i64 a106]) :: (q1, .cells [.int .i64 a71, .int .i64 a72, .str a73, mslO 2 g107 a108, .str a76, .int .i64 a77]) :: mo g107 c_T_scan_Pair a108 :: O) ∧ WS s' ⟨mkSl 113 [(0, .ptr q0 0), (1, .ptr q1 0), (5, .str a109), (18, .sl 1 (List.map c_str [([118, 101, 114, 115, 105, 111, 110] : List UInt8), ([101, 110, 99, 111, 100, 105, 110, 103] : List UInt8), ([115, 116, 97, 110, 100, 97, 108, 111, 110, 101] : List UInt8)]) 0), (19, .int .i64 ([([118, 101, 114, 115, 105, 111, 110] : List UInt8), ([101, 110, 99, 111, 100, 105, 110, 103] : List UInt8), ([115, 116, 97, 110, 100, 97, 108, 111, 110, 101] : List UInt8)].length : Int)), (20, .int .i64 a79)], Hp h ((q0, .cells [.sl 1 (List.map c_u8 a105) 0, .int .i64 a106]) :: (q1, .cells [.int .i64 a71, .int .i64 a72, .str a73, mslO 2 g107 a108, .str a76, .int .i64 a77]) :: mo g107 c_T_scan_Pair a108 :: O)⟩) (fun J110 hF => ?_) ?_
    ·refine Zqaw ?_
     refine Zqb1 ?_
     refine S_ix rfl rfl ty_sl_77 ty_sz_9 hF (fun x111 _ hF => ?_)
     refine Zqbn ?_
     refine Zqaz ?_
     refine Zqdx ?_
     refine Zqeb ?_
     refine cl (okT (fun _ hF => F_scan_scanner_spaces_w _ (p0 := (⟨a69, a70⟩ : T_scan_scanner)) (q0 := q0) h ((q1, .cells [.int .i64 a71, .int .i64 a72, .str a73, mslO 2 g74 a75, .str a76, .int .i64 a77]) :: mo g74 c_T_scan_Pair a75 :: O) hq0 ok hF) hF fun x112 _ _ _ hq hF => ?_)
     obtain ⟨rfl, ok, rfl⟩ := hq
     refine Zqdu ?_
     refine Zqeb ?_
     refine Zqdr ?_
     refine S_twoJ 11 47 hF (fun J114 hb113 hF => ?_) (fun J114 hb113 hF => ?_) (fun v115 hF => ?_)
     ·refine Zqck ?_
      refine Zqck ?_
      refine Zqc9 ?_
      exact tw
     ·refine Zqb2 ?_
      refine Zqga ?_
      refine Zqax ?_
      refine Zqb4 ?_
      refine Zqbh ?_
      refine Zqb4 ?_
      refine Zqbi ?_
      refine Zqb4 ?_
      refine Zqcc ?_
      refine S_slL rfl ty_sl_22 ty_sz_5 (bd_at rfl) bd_len hF (fun x116 _ hF => ?_)
      refine Zqb4 ?_
      refine Zqcr ?_
      refine Zqbk ?_
      refine Zqb4 ?_
      refine cl (ok_of (fun _ h hF => F_bytes_HasPrefix_w _ _ h hF) _ hF fun x117 _ hF => ?_)
      refine Zqfm ?_
      exact tw
     ·refine Zqaa ?_
      refine C_if rfl hF (fun hb118 hF => ?_) fun hb118 hF => ?_
      ·refine Zqe2 ?_
       refine Zqfx ?_
       refine C_if rfl hF (fun hb119 hF => ?_) fun hb119 hF => ?_
       ·refine Zqdo ?_
        replace hF := hG81 _ (F_some hF)
        refine rr ?_
        exact ⟨_, _, (.refl _), hy ok, _, F_some hF, rfl, g74, zg74, oy ok, rfl⟩
       ·refine Zqal ?_
        refine Zqcs ?_
        exact ⟨(a69, a70, a75, a78), hF, g74, zg74, oy ok, wy ok⟩
      ·refine Zqed ?_
       refine Zqah ?_
       refine Zqe0 ?_
       refine Zqcq ?_
       refine S_st (j := 0) (cs' := [.sl 1 (List.map c_u8 a69) 0, .int .i64 (IntKind.wrap .i64 (x112 + (x111.length : Int)))]) ok rfl rfl rfl hq0 rfl ty_sz_3 rfl rfl (fun ok => ?_)
       refine Zqdi ?_
       refine Zqcj ?_
       refine cl (okT (fun _ hF => F_scan_scanner_equals_w (p0 := (⟨a69, (IntKind.wrap .i64 (x112 + (x111.length : Int)))⟩ : T_scan_scanner)) (q0 := q0) h ((q1, .cells [.int .i64 a71, .int .i64 a72, .str a73, mslO 2 g74 a75, .str a76, .int .i64 a77]) :: mo g74 c_T_scan_Pair a75 :: O) hq0 ok hF) hF fun x120 _ _ _ hq hF => ?_)
       obtain ⟨rfl, ok, rfl⟩ := hq
       refine Zqdd ?_
       refine C_if rfl hF (fun hb121 hF => ?_) fun hb121 hF => ?_
       ·refine Zqdo ?_
        replace hF := hG81 _ (F_some hF)
        refine rr ?_
        exact ⟨_, _, (.refl _), hy ok, _, F_some hF, rfl, g74, zg74, oy ok, rfl⟩
       ·refine Zqed ?_
        refine cl (okT (fun _ hF => F_scan_scanner_quoted_w (p0 := x120.2) (q0 := q0) h ((q1, .cells [.int .i64 a71, .int .i64 a72, .str a73, mslO 2 g74 a75, .str a76, .int .i64 a77]) :: mo g74 c_T_scan_Pair a75 :: O) hq0 ok hF) hF fun x122 _ _ _ hq hF => ?_)
        obtain ⟨rfl, ok, rfl⟩ := hq
        refine Zqcw ?_
        refine Zqbb ?_
        refine Zqdu ?_
        refine Zqgg ?_
        refine S_twoJ 6 73 hF (fun J124 hb123 hF => ?_) (fun J124 hb123 hF => ?_) (fun v125 hF => ?_)
        ·refine Zqfn ?_
         exact tw
        ·refine Zqc1 ?_
         refine Zqc3 ?_
         refine Zqbe ?_
         refine Zqb4 ?_
         refine cl (ok_of (fun _ h hF => F_scan_fits_w _ _ h hF) _ hF fun x126 _ hF => ?_)
         refine Zqfm ?_
         exact tw
        ·refine Zqaa ?_
         refine C_if rfl hF (fun hb127 hF => ?_) fun hb127 hF => ?_
         ·refine Zqdo ?_
          replace hF := hG81 _ (F_some hF)
          refine rr ?_
          exact ⟨_, _, (.refl _), hy ok, _, F_some hF, rfl, g74, zg74, oy ok, rfl⟩
         ·refine Zqc2 ?_
          refine C_drw (mdl [(84, 1)]) (by kernel_rfl) (by kernel_rfl) ?_
          refine Zqaq ?_
          refine Zqep ?_
          refine Zqbs ?_
          refine S_ldP (j := 1) ok rfl rfl rfl (by assumption) (p_one (v := mslO _ _ _) ty_ag_39 ty_sz_39 rfl) ?_
          refine Zqak ?_
          refine Zqas ?_
          refine Zqbe ?_
          refine S_bld (v := .agg (c_T_scan_Pair (⟨x111, x122.1.1⟩ : T_scan_Pair))) (b_st ty_zc_44 ty_pl_44 rfl) ?_
          refine S_lit0 (cs := [.str (⟨x111, x122.1.1⟩ : T_scan_Pair).Name, .str (⟨x111, x122.1.1⟩ : T_scan_Pair).Value]) (es := (List.map c_T_scan_Pair [(⟨x111, x122.1.1⟩ : T_scan_Pair)])) rfl ty_el_39 rfl (by kernel_rfl) (by kernel_rfl) ?_
          refine S_appO (j := 2) (M := [(⟨x111, x122.1.1⟩ : T_scan_Pair)]) ok zg74 rfl rfl src_sl (fun _ => rfl) rfl ty_el_39 ty_ni_39 hF ?_
          intro u128 zu128 ok hF
          obtain ⟨a129, ha129, hF⟩ := F_let hF
          rw [← ha129] at ok zu128
          rw [← ha129]
          refine Zqax ?_
          refine Zqbs ?_
          refine S_stB (j := 1) (cs' := [.int .i64 a71, .int .i64 a72, .str a73, mslO 2 u128 a129, .str a76, .int .i64 a77]) ok rfl rfl rfl hq1 ty_sz_39 rfl rfl (fun ok => ?_)
          refine Zqaa ?_
          refine Zqcd ?_
          refine Zqfx ?_
          refine C_if rfl hF (fun hb130 hF => ?_) fun hb130 hF => ?_
          ·refine Zqac ?_
           refine Zqas ?_
           refine Zqbe ?_
           refine Zqe4 ?_
           exact ⟨(x122.2.b, x122.2.at_, a129, x122.1.1), hF, u128, zu128, oy ok, wy ok⟩
          ·refine Zqal ?_
           exact ⟨(x122.2.b, x122.2.at_, a129, a78), hF, u128, zu128, oy ok, wy ok⟩
    ·rintro ⟨a105, a106, a108, a109⟩ s' hF ⟨g107, zg107, ok, hws⟩
     refine WP_ws hws ?_
     clear hws s'
     refine Zqfg ?_
     refine ih83 (a105, a106, a71, a72, a73, a108, a76, a77, a109, (IntKind.wrap .i64 (a79 + (1 : Int)))) _ hF ?_
     exact ⟨g107, zg107, oy ok, wy ok⟩
   ·refine Zqcs ?_
    replace hF := hG81 _ (F_some hF)
    exact ⟨(a69, a70, a78, a71, a72, a73, a75, a76, a77), hF, g74, zg74, oy ok, wy ok⟩
 ·rintro ⟨a58, a59, a60, a61, a62, a63, a65, a66, a67⟩ s' hF ⟨g64, zg64, ok, hws⟩
  refine WP_ws hws ?_
  clear hws s'
  refine Zqe1 ?_
  refine Zqeb ?_
  refine cl (okT (fun _ hF => F_scan_scanner_spaces_w _ (p0 := (⟨a58, a59⟩ : T_scan_scanner)) (q0 := q0) h ((q1, .cells [.int .i64 a61, .int .i64 a62, .str a63, mslO 2 g64 a65, .str a66, .int .i64 a67]) :: mo g64 c_T_scan_Pair a65 :: O) hq0 ok hF) hF fun x131 _ _ _ hq hF => ?_)
  obtain ⟨rfl, ok, rfl⟩ := hq
  refine Zqcq ?_
  refine S_st (j := 0) (cs' := [.sl 1 (List.map c_u8 a58) 0, .int .i64 x131]) ok rfl rfl rfl hq0 rfl ty_sz_3 rfl rfl (fun ok => ?_)
  refine Zqdi ?_
  refine Zqcj ?_
  refine cl (okT (fun _ hF => F_scan_scanner_sign_w _ (p0 := (⟨a58, x131⟩ : T_scan_scanner)) (q0 := q0) h ((q1, .cells [.int .i64 a61, .int .i64 a62, .str a63, mslO 2 g64 a65, .str a66, .int .i64 a67]) :: mo g64 c_T_scan_Pair a65 :: O) hq0 ok hF) hF fun x132 _ _ _ hq hF => ?_)
  obtain ⟨rfl, ok, rfl⟩ := hq
  refine Zqgh ?_
  refine C_if rfl hF (fun hb133 hF => ?_) fun hb133 hF => ?_
  ·refine Zqec ?_
   refine rr ?_
   exact ⟨_, _, (.refl _), hy ok, _, F_some hF, rfl, g64, zg64, oy ok, rfl⟩
  ·refine Zqc2 ?_
   refine Zqcd ?_
   refine Zqbp ?_
   refine Zqam ?_
   refine S_twoJ 4 112 hF (fun J135 hb134 hF => ?_) (fun J135 hb134 hF => ?_) (fun v136 hF => ?_)
   ·refine Zqc1 ?_
    refine cl (ok_of (fun _ h hF => F_strings_EqualFold_w _ _ h hF) _ hF fun x137 _ hF => ?_)
    refine Zqgc ?_
    exact tw
   ·refine Zqeq ?_
    exact tw
   ·refine Zqaa ?_
    refine C_if rfl hF (fun hb138 hF => ?_) fun hb138 hF => ?_
    ·refine Zqdo ?_
     refine rr ?_
     exact ⟨_, _, (.refl _), hy ok, _, F_some hF, rfl, g64, zg64, oy ok, rfl⟩
    ·refine Zqal ?_
     refine Zqdo ?_
     refine rr ?_
     exact ⟨_, _, (.refl _), hy ok, _, F_some hF, rfl, g64, zg64, oy ok, rfl⟩
theorem F_scan_scanner_upTo_w (p0 : T_scan_scanner) (p1 : T_scan_Token) (p2 : Int) (p3 : List UInt8) (q0 : Nat) (q1 : Nat) (b1_3 : Nat) {G : Int × T_scan_scanner × T_scan_Token → Prop} (h : Heap) (O : List (Nat × AObj)) (hq0 : q0 ≠ 0) (hq1 : q1 ≠ 0) (zb1_3 : b1_3 = 0 → p1.Pairs = []) (ok : OK h ((q0, .cells [.sl 1 (List.map c_u8 p0.b) 0, .int .i64 p0.at_]) :: (q1, .cells [.int .i64 p1.Kind, .int .i64 p1.At, .str p1.Name, mslO 2 b1_3 p1.Pairs, .str p1.Text, .int .i64 p1.Refs]) :: mo b1_3 c_T_scan_Pair p1.Pairs :: O)) (hF : OptP (F_scan_scanner_upTo p0 p1 p2 p3) G) : CallsA Tryz.prog 26 [.ptr q0 0, .ptr q1 0, .int .i64 p2, .str p3] (Hp h ((q0, .cells [.sl 1 (List.map c_u8 p0.b) 0, .int .i64 p0.at_]) :: (q1, .cells [.int .i64 p1.Kind, .int .i64 p1.At, .str p1.Name, mslO 2 b1_3 p1.Pairs, .str p1.Text, .int .i64 p1.Refs]) :: mo b1_3 c_T_scan_Pair p1.Pairs :: O)) fun d h' => ∃ r, G r ∧ d = .int .i64 r.1 ∧ ∃ b1_3' : Nat, (b1_3' = 0 → r.2.2.Pairs = []) ∧ OK h ((q0, .cells [.sl 1 (List.map c_u8 r.2.1.b) 0, .int .i64 r.2.1.at_]) :: (q1, .cells [.int .i64 r.2.2.Kind, .int .i64 r.2.2.At, .str r.2.2.Name, mslO 2 b1_3' r.2.2.Pairs, .str r.2.2.Text, .int .i64 r.2.2.Refs]) :: mo b1_3' c_T_scan_Pair r.2.2.Pairs :: O) ∧ h' = Hp h ((q0, .cells [.sl 1 (List.map c_u8 r.2.1.b) 0, .int .i64 r.2.1.at_]) :: (q1, .cells [.int .i64 r.2.2.Kind, .int .i64 r.2.2.At, .str r.2.2.Name, mslO 2 b1_3' r.2.2.Pairs, .str r.2.2.Text, .int .i64 r.2.2.Refs]) :: mo b1_3' c_T_scan_Pair r.2.2.Pairs :: O) := by
 refine CallsA.ret ?_
 refine C_bodyO Tryz.func26 rfl en_26 Tryz.ntmps26 rfl ?_
 rw [F_scan_scanner_upTo] at hF
 refine Zqgb ?_
 refine C_drw (mdl []) (by kernel_rfl) (by kernel_rfl) ?_
 refine Zqf9 ?_
 refine Zqcm ?_
 refine S_slL rfl ty_sl_22 ty_sz_5 (bd_at rfl) bd_len hF (fun x1 _ hF => ?_)
 refine Zqd0 ?_
 refine Zqcu ?_
 refine Zqak ?_
 refine Zqbk ?_
 refine cl (L_bIndex_ok _ hF fun x2 _ hF => ?_)
 refine Zqgd ?_
 refine C_if rfl hF (fun hb3 hF => ?_) fun hb3 hF => ?_
 ·refine Zqdo ?_
  refine rr ?_
  exact ⟨_, _, (.refl _), hy ok, _, F_some hF, rfl, b1_3, zb1_3, oy ok, rfl⟩
 ·refine Zqed ?_
  refine Zqgi ?_
  refine S_slL rfl ty_sl_22 ty_sz_5 bd_no (bd_at rfl) hF (fun x4 _ hF => ?_)
  refine Zqbe ?_
  refine Zqax ?_
  refine S_faP rfl ty_fd_41_4 ty_sz_9 ?_
  refine S_st (j := 1) (cs' := [.int .i64 p1.Kind, .int .i64 p1.At, .str p1.Name, mslO 2 b1_3 p1.Pairs, .str x4, .int .i64 p1.Refs]) ok rfl rfl rfl hq1 rfl ty_sz_9 rfl rfl (fun ok => ?_)
  refine Zqdx ?_
  refine Zqde ?_
  refine Zqah ?_
  refine Zqcm ?_
  refine Zqe0 ?_
  refine Zqge ?_
  refine S_st (j := 0) (cs' := [.sl 1 (List.map c_u8 p0.b) 0, .int .i64 (IntKind.wrap .i64 (p0.at_ + (IntKind.wrap .i64 ((IntKind.wrap .i64 (p2 + x2)) + (p3.length : Int)))))]) ok rfl rfl rfl hq0 rfl ty_sz_3 rfl rfl (fun ok => ?_)
  refine Zqaa ?_
  refine Zqdo ?_
  refine rr ?_
  exact ⟨_, _, (.refl _), hy ok, _, F_some hF, rfl, b1_3, zb1_3, oy ok, rfl⟩
theorem F_char_IsStart_w (p0 : Int) {G : Bool → Prop} (h : Heap) (hF : OptP (F_char_IsStart p0) G) : CallsA Tryz.prog 77 [.int .i32 p0] h fun d h' => ∃ r, G r ∧ d = .bool r ∧ h' = h := by
 refine CallsA.ret ?_
 refine C_body Tryz.func77 rfl en_77 Tryz.ntmps77 rfl (fun ok => ?_)
 rw [F_char_IsStart] at hF
 refine Zqdb ?_
 refine Zqch ?_
 refine Zqc0 ?_
 refine C_if rfl hF (fun hb1 hF => ?_) fun hb1 hF => ?_
 ·refine Zqd3 ?_
  refine S_two (b := (decide ((97 : Int) ≤ p0))) 3 10 (.bool ((decide ((97 : Int) ≤ p0)) && (decide (p0 ≤ (122 : Int))))) (fun hb2 => ?_) (fun hb2 => ?_) ?_
  ·refine Zqdm ?_
   exact th
  ·refine Zqcv ?_
   exact th
  refine Zqam ?_
  refine S_two (b := ((decide ((97 : Int) ≤ p0)) && (decide (p0 ≤ (122 : Int))))) 7 18 (.bool (((decide ((97 : Int) ≤ p0)) && (decide (p0 ≤ (122 : Int)))) || ((decide ((65 : Int) ≤ p0)) && (decide (p0 ≤ (90 : Int)))))) (fun hb3 => ?_) (fun hb3 => ?_) ?_
  ·refine Zqe7 ?_
   exact th
  ·refine Zqe8 ?_
   refine S_two (b := (decide ((65 : Int) ≤ p0))) 3 17 (.bool ((decide ((65 : Int) ≤ p0)) && (decide (p0 ≤ (90 : Int))))) (fun hb5 => ?_) (fun hb5 => ?_) ?_
   ·refine Zqe9 ?_
    exact th
   ·refine Zqej ?_
    exact th
   refine Zqb9 ?_
   exact th
  refine Zqam ?_
  refine S_two (b := (((decide ((97 : Int) ≤ p0)) && (decide (p0 ≤ (122 : Int)))) || ((decide ((65 : Int) ≤ p0)) && (decide (p0 ≤ (90 : Int)))))) 3 22 (.bool ((((decide ((97 : Int) ≤ p0)) && (decide (p0 ≤ (122 : Int)))) || ((decide ((65 : Int) ≤ p0)) && (decide (p0 ≤ (90 : Int))))) || (p0 == (95 : Int)))) (fun hb6 => ?_) (fun hb6 => ?_) ?_
  ·refine Zqc9 ?_
   exact th
  ·refine Zqd7 ?_
   exact th
  refine Zqcl ?_
  exact rt
 ·refine Zqfl ?_
  refine S_bld (v := .agg (c_T_char_span (⟨(192 : Int), (214 : Int)⟩ : T_char_span))) (b_st ty_zc_99 ty_pl_99 rfl) ?_
  refine S_bld (v := .agg (c_T_char_span (⟨(216 : Int), (246 : Int)⟩ : T_char_span))) (b_st ty_zc_99 ty_pl_99 rfl) ?_
  refine S_bld (v := .agg (c_T_char_span (⟨(248 : Int), (767 : Int)⟩ : T_char_span))) (b_st ty_zc_99 ty_pl_99 rfl) ?_
  refine S_bld (v := .agg (c_T_char_span (⟨(880 : Int), (893 : Int)⟩ : T_char_span))) (b_st ty_zc_99 ty_pl_99 rfl) ?_
  refine S_bld (v := .agg (c_T_char_span (⟨(895 : Int), (8191 : Int)⟩ : T_char_span))) (b_st ty_zc_99 ty_pl_99 rfl) ?_
  refine S_bld (v := .agg (c_T_char_span (⟨(8204 : Int), (8205 : Int)⟩ : T_char_span))) (b_st ty_zc_99 ty_pl_99 rfl) ?_
  refine S_bld (v := .agg (c_T_char_span (⟨(8304 : Int), (8591 : Int)⟩ : T_char_span))) (b_st ty_zc_99 ty_pl_99 rfl) ?_
  refine S_bld (v := .agg (c_T_char_span (⟨(11264 : Int), (12271 : Int)⟩ : T_char_span))) (b_st ty_zc_99 ty_pl_99 rfl) ?_
  refine S_bld (v := .agg (c_T_char_span (⟨(12289 : Int), (55295 : Int)⟩ : T_char_span))) (b_st ty_zc_99 ty_pl_99 rfl) ?_
  refine S_bld (v := .agg (c_T_char_span (⟨(63744 : Int), (64975 : Int)⟩ : T_char_span))) (b_st ty_zc_99 ty_pl_99 rfl) ?_
  refine S_bld (v := .agg (c_T_char_span (⟨(65008 : Int), (65533 : Int)⟩ : T_char_span))) (b_st ty_zc_99 ty_pl_99 rfl) ?_
  refine S_bld (v := .agg (c_T_char_span (⟨(65536 : Int), (983039 : Int)⟩ : T_char_span))) (b_st ty_zc_99 ty_pl_99 rfl) ?_
  refine S_lit0 (cs := [.int .i32 (⟨(192 : Int), (214 : Int)⟩ : T_char_span).lo, .int .i32 (⟨(192 : Int), (214 : Int)⟩ : T_char_span).hi, .int .i32 (⟨(216 : Int), (246 : Int)⟩ : T_char_span).lo, .int .i32 (⟨(216 : Int), (246 : Int)⟩ : T_char_span).hi, .int .i32 (⟨(248 : Int), (767 : Int)⟩ : T_char_span).lo, .int .i32 (⟨(248 : Int), (767 : Int)⟩ : T_char_span).hi, .int .i32 (⟨(880 : Int), (893 : Int)⟩ : T_char_span).lo, .int .i32 (⟨(880 : Int), (893 : Int)⟩ : T_char_span).hi, .int .i32 (⟨(895 : Int), (8191 : Int)⟩ : T_char_span).lo, .int .i32 (⟨(895 : Int), (8191 : Int)⟩ : T_char_span).hi, .int .i32 (⟨(8204 : Int), (8205 : Int)⟩ : T_char_span).lo, .int .i32 (⟨(8204 : Int), (8205 : Int)⟩ : T_char_span).hi, .int .i32 (⟨(8304 : Int), (8591 : Int)⟩ : T_char_span).lo, .int .i32 (⟨(8304 : Int), (8591 : Int)⟩ : T_char_span).hi, .int .i32 (⟨(11264 : Int), (12271 : Int)⟩ : T_char_span).lo, .int .i32 (⟨(11264 : Int), (12271 : Int)⟩ : T_char_span).hi, .int .i32 (⟨(12289 : Int), (55295 : Int)⟩ : T_char_span).lo, .int .i32 (⟨(12289 : Int), (55295 : Int)⟩ : T_char_span).hi, .int .i32 (⟨(63744 : Int), (64975 : Int)⟩ : T_char_span).lo, .int .i32 (⟨(63744 : Int), (64975 : Int)⟩ : T_char_span).hi, .int .i32 (⟨(65008 : Int), (65533 : Int)⟩ : T_char_span).lo, .int .i32 (⟨(65008 : Int), (65533 : Int)⟩ : T_char_span).hi, .int .i32 (⟨(65536 : Int), (983039 : Int)⟩ : T_char_span).lo, .int .i32 (⟨(65536 : Int), (983039 : Int)⟩ : T_char_span).hi]) (es := (List.map c_T_char_span [(⟨(192 : Int), (214 : Int)⟩ : T_char_span), (⟨(216 : Int), (246 : Int)⟩ : T_char_span), (⟨(248 : Int), (767 : Int)⟩ : T_char_span), (⟨(880 : Int), (893 : Int)⟩ : T_char_span), (⟨(895 : Int), (8191 : Int)⟩ : T_char_span), (⟨(8204 : Int), (8205 : Int)⟩ : T_char_span), (⟨(8304 : Int), (8591 : Int)⟩ : T_char_span), (⟨(11264 : Int), (12271 : Int)⟩ : T_char_span), (⟨(12289 : Int), (55295 : Int)⟩ : T_char_span), (⟨(63744 : Int), (64975 : Int)⟩ : T_char_span), (⟨(65008 : Int), (65533 : Int)⟩ : T_char_span), (⟨(65536 : Int), (983039 : Int)⟩ : T_char_span)])) rfl ty_el_100 rfl (by kernel_rfl) (by kernel_rfl) ?_
  refine cl (ok_of (fun _ h hF => F_char_in_w _ _ h hF) _ hF fun x7 _ hF => ?_)
  refine Zqcl ?_
  exact rt
theorem F_char_IsPart_w (p0 : Int) {G : Bool → Prop} (h : Heap) (hF : OptP (F_char_IsPart p0) G) : CallsA Tryz.prog 76 [.int .i32 p0] h fun d h' => ∃ r, G r ∧ d = .bool r ∧ h' = h := by
 refine CallsA.ret ?_
 refine C_body Tryz.func76 rfl en_76 Tryz.ntmps76 rfl (fun ok => ?_)
 rw [F_char_IsPart] at hF
 refine Zqdb ?_
 refine Zqb7 ?_
 refine cl (ok_of (fun _ h hF => F_char_IsStart_w _ h hF) _ hF fun x1 _ hF => ?_)
 refine Zqam ?_
 refine S_two (b := x1) 3 8 (.bool (x1 || (p0 == (45 : Int)))) (fun hb2 => ?_) (fun hb2 => ?_) ?_
 ·refine Zqc9 ?_
  exact th
 ·refine Zqd7 ?_
  exact th
 refine Zqam ?_
 refine S_two (b := (x1 || (p0 == (45 : Int)))) 3 12 (.bool ((x1 || (p0 == (45 : Int))) || (p0 == (46 : Int)))) (fun hb3 => ?_) (fun hb3 => ?_) ?_
 ·refine Zqc9 ?_
  exact th
 ·refine Zqd7 ?_
  exact th
 refine Zqam ?_
 refine S_two (b := ((x1 || (p0 == (45 : Int))) || (p0 == (46 : Int)))) 7 20 (.bool (((x1 || (p0 == (45 : Int))) || (p0 == (46 : Int))) || ((decide ((48 : Int) ≤ p0)) && (decide (p0 ≤ (57 : Int)))))) (fun hb4 => ?_) (fun hb4 => ?_) ?_
 ·refine Zqe7 ?_
  exact th
 ·refine Zqe8 ?_
  refine S_two (b := (decide ((48 : Int) ≤ p0))) 3 19 (.bool ((decide ((48 : Int) ≤ p0)) && (decide (p0 ≤ (57 : Int))))) (fun hb6 => ?_) (fun hb6 => ?_) ?_
  ·refine Zqe9 ?_
   exact th
  ·refine Zqej ?_
   exact th
  refine Zqb9 ?_
  exact th
 refine Zqam ?_
 refine S_two (b := (((x1 || (p0 == (45 : Int))) || (p0 == (46 : Int))) || ((decide ((48 : Int) ≤ p0)) && (decide (p0 ≤ (57 : Int)))))) 3 24 (.bool ((((x1 || (p0 == (45 : Int))) || (p0 == (46 : Int))) || ((decide ((48 : Int) ≤ p0)) && (decide (p0 ≤ (57 : Int))))) || (p0 == (183 : Int)))) (fun hb7 => ?_) (fun hb7 => ?_) ?_
 ·refine Zqc9 ?_
  exact th
 ·refine Zqd7 ?_
  exact th
 refine Zqam ?_
 refine S_twoJ 6 31 hF (fun J9 hb8 hF => ?_) (fun J9 hb8 hF => ?_) (fun v10 hF => ?_)
 ·refine Zqfn ?_
  exact tw
 ·refine Zqce ?_
  refine S_bld (v := .agg (c_T_char_span (⟨(768 : Int), (879 : Int)⟩ : T_char_span))) (b_st ty_zc_99 ty_pl_99 rfl) ?_
  refine Zqb4 ?_
  refine S_bld (v := .agg (c_T_char_span (⟨(8255 : Int), (8256 : Int)⟩ : T_char_span))) (b_st ty_zc_99 ty_pl_99 rfl) ?_
  refine Zqb4 ?_
  refine S_lit0 (cs := [.int .i32 (⟨(768 : Int), (879 : Int)⟩ : T_char_span).lo, .int .i32 (⟨(768 : Int), (879 : Int)⟩ : T_char_span).hi, .int .i32 (⟨(8255 : Int), (8256 : Int)⟩ : T_char_span).lo, .int .i32 (⟨(8255 : Int), (8256 : Int)⟩ : T_char_span).hi]) (es := (List.map c_T_char_span [(⟨(768 : Int), (879 : Int)⟩ : T_char_span), (⟨(8255 : Int), (8256 : Int)⟩ : T_char_span)])) rfl ty_el_100 rfl (by kernel_rfl) (by kernel_rfl) ?_
  refine Zqb4 ?_
  refine cl (ok_of (fun _ h hF => F_char_in_w _ _ h hF) _ hF fun x11 _ hF => ?_)
  refine Zqcp ?_
  exact tw
 ·refine Zqcl ?_
  exact rt
theorem F_char_Name_w (p0 : List UInt8) {G : Bool → Prop} (h : Heap) (hF : OptP (F_char_Name p0) G) : CallsA Tryz.prog 52 [.str p0] h fun d h' => ∃ r, G r ∧ d = .bool r ∧ h' = h := by
 refine CallsA.ret ?_
 refine C_body Tryz.func52 rfl en_52 Tryz.ntmps52 rfl (fun ok => ?_)
 rw [F_char_Name] at hF
 refine Zqdb ?_
 refine Zqe2 ?_
 refine Zqba ?_
 refine Zqam ?_
 refine S_two (b := (p0 == ([] : List UInt8))) 4 11 (.bool ((p0 == ([] : List UInt8)) || (decide ((100 : Int) < (p0.length : Int))))) (fun hb1 => ?_) (fun hb1 => ?_) ?_
 ·refine Zqfy ?_
  exact th
 ·refine Zqc1 ?_
  refine Zqa9 ?_
  refine Zqb4 ?_
  refine Zqbg ?_
  refine Zqcp ?_
  exact th
 refine Zqam ?_
 refine S_twoJ 4 16 hF (fun J3 hb2 hF => ?_) (fun J3 hb2 hF => ?_) (fun v4 hF => ?_)
 ·refine Zqfy ?_
  exact tw
 ·refine Zqc1 ?_
  refine cl (L_ValidString_ok _ hF fun x5 _ hF => ?_)
  refine Zqfm ?_
  exact tw
 ·refine Zqaa ?_
  refine C_if rfl hF (fun hb6 hF => ?_) fun hb6 hF => ?_
  ·refine Zqdc ?_
   exact rt
  ·refine Zqal ?_
   refine C_join hF (fun (_ : Unit) s' => OK h [] ∧ WS s' ⟨mkSl 35 [], Hp h []⟩) (fun J18 hF => ?_) ?_
   ·refine Zqcd ?_
    refine S_rng ok rfl ty_st_9 ?_
    intro i19 hi19 ok
    refine Zqaa ?_
    refine Zqaw ?_
    refine C_loop (σ := Nat) hF (fun (a20 : Nat) s' => OK h [(i19, .iter p0 a20)] ∧ WS s' ⟨mkSl 35 [(18, .ptr i19 0)], Hp h [(i19, .iter p0 a20)]⟩) ?_ ?_
    ·exact ⟨oy ok, wy ok⟩
    ·rintro G21 hG22 rec23 a20 s' ih24 hF ⟨ok, hws⟩
     refine WP_ws hws ?_
     clear hws s'
     rw [F_char_Name_l0] at hF
     refine Zqb1 ?_
     refine S_nxt (j := 0) ok rfl rfl hi19 hF (fun _ ok hF => ?_) (fun hF => ?_)
     ·refine Zqar ?_
      refine Zqdi ?_
      refine C_tt rfl rfl ?_
      refine Zqea ?_
      refine Zqb1 ?_
      refine Zqco ?_
      refine Zqcn ?_
      refine Zqb7 ?_
      refine Zqdr ?_
      refine S_twoJ 4 29 hF (fun J26 hb25 hF => ?_) (fun J26 hb25 hF => ?_) (fun v27 hF => ?_)
      ·refine Zqce ?_
       refine cl (ok_of (fun _ h hF => F_char_IsStart_w _ h hF) _ hF fun x28 _ hF => ?_)
       refine Zqgc ?_
       exact tw
      ·refine Zqeq ?_
       exact tw
      ·refine Zqam ?_
       refine S_twoJ 4 34 hF (fun J30 hb29 hF => ?_) (fun J30 hb29 hF => ?_) (fun v31 hF => ?_)
       ·refine Zqfy ?_
        exact tw
       ·refine Zqce ?_
        refine cl (ok_of (fun _ h hF => F_char_IsPart_w _ h hF) _ hF fun x32 _ hF => ?_)
        refine Zqfm ?_
        exact tw
       ·refine Zqaa ?_
        refine C_if rfl hF (fun hb33 hF => ?_) fun hb33 hF => ?_
        ·refine Zqdc ?_
         replace hF := hG22 _ (F_some hF)
         exact rt
        ·refine Zqal ?_
         refine ih24 (a20 + wdS p0 a20) _ hF ?_
         exact ⟨oy ok, wy ok⟩
     ·refine Zqar ?_
      refine Zqdi ?_
      refine C_ff rfl rfl ?_
      refine Zqcs ?_
      replace hF := hG22 _ (F_some hF)
      exact ⟨(), hF, oy ok, wy ok⟩
   ·rintro ⟨⟩ s' hF ⟨ok, hws⟩
    refine WP_ws hws ?_
    clear hws s'
    refine Zqdc ?_
    exact rt
theorem F_char_Split_w (p0 : List UInt8) {G : (List UInt8) × (List UInt8) × Bool → Prop} (h : Heap) (hF : OptP (F_char_Split p0) G) : CallsA Tryz.prog 78 [.str p0] h fun d h' => ∃ r, G r ∧ d = .tup [.str r.1, .str r.2.1, .bool r.2.2] ∧ h' = h := by
 refine CallsA.ret ?_
 refine C_body Tryz.func78 rfl en_78 Tryz.ntmps78 rfl (fun ok => ?_)
 rw [F_char_Split] at hF
 refine Zqb1 ?_
 refine S_a (v := .str ([] : List UInt8)) rfl ?_
 refine S_a (v := .str ([] : List UInt8)) rfl ?_
 refine Zqcb ?_
 refine Zqcd ?_
 refine cl (L_Cut_ok _ hF fun x1 _ hF => ?_)
 refine Zqey ?_
 refine Zqaz ?_
 refine Zqcb ?_
 refine Zqab ?_
 refine Zqaw ?_
 refine Zqe3 ?_
 refine Zqa6 ?_
 refine Zqam ?_
 refine S_twoJ 3 18 hF (fun J3 hb2 hF => ?_) (fun J3 hb2 hF => ?_) (fun v4 hF => ?_)
 ·refine Zqc1 ?_
  refine cl (ok_of (fun _ h hF => F_char_Name_w _ h hF) _ hF fun x5 _ hF => ?_)
  refine Zqci ?_
  exact tw
 ·refine Zqcv ?_
  exact tw
 ·refine Zqcb ?_
  refine C_if rfl hF (fun hb6 hF => ?_) fun hb6 hF => ?_
  ·refine Zqcd ?_
   refine S_a (v := .str ([] : List UInt8)) rfl ?_
   refine Zqft ?_
   exact rt
  ·refine Zqe3 ?_
   refine Zqam ?_
   refine S_twoJ 3 25 hF (fun J8 hb7 hF => ?_) (fun J8 hb7 hF => ?_) (fun v9 hF => ?_)
   ·refine Zqc1 ?_
    refine cl (ok_of (fun _ h hF => F_char_Name_w _ h hF) _ hF fun x10 _ hF => ?_)
    refine Zqci ?_
    exact tw
   ·refine Zqcv ?_
    exact tw
   ·refine Zqam ?_
    refine S_twoJ 3 29 hF (fun J12 hb11 hF => ?_) (fun J12 hb11 hF => ?_) (fun v13 hF => ?_)
    ·refine Zqc1 ?_
     refine cl (ok_of (fun _ h hF => F_char_Name_w _ h hF) _ hF fun x14 _ hF => ?_)
     refine Zqci ?_
     exact tw
    ·refine Zqcv ?_
     exact tw
    ·refine Zqcb ?_
     refine C_if rfl hF (fun hb15 hF => ?_) fun hb15 hF => ?_
     ·refine Zqcd ?_
      refine Zqak ?_
      refine Zqaz ?_
      refine Zqft ?_
      exact rt
     ·refine Zqal ?_
      refine Zqb1 ?_
      refine S_a (v := .str ([] : List UInt8)) rfl ?_
      refine S_a (v := .str ([] : List UInt8)) rfl ?_
      refine Zqcl ?_
      exact rt
theorem F_scan_scanner_name_w (p0 : T_scan_scanner) (q0 : Nat) {G : ((List UInt8) × Int) × T_scan_scanner → Prop} (h : Heap) (O : List (Nat × AObj)) (hq0 : q0 ≠ 0) (ok : OK h ((q0, .cells [.sl 1 (List.map c_u8 p0.b) 0, .int .i64 p0.at_]) :: O)) (hF : OptP (F_scan_scanner_name p0) G) : CallsA Tryz.prog 51 [.ptr q0 0] (Hp h ((q0, .cells [.sl 1 (List.map c_u8 p0.b) 0, .int .i64 p0.at_]) :: O)) fun d h' => ∃ r, G r ∧ d = .tup [.str r.1.1, .int .i64 r.1.2] ∧ OK h ((q0, .cells [.sl 1 (List.map c_u8 r.2.b) 0, .int .i64 r.2.at_]) :: O) ∧ h' = Hp h ((q0, .cells [.sl 1 (List.map c_u8 r.2.b) 0, .int .i64 r.2.at_]) :: O) := by
 refine CallsA.ret ?_
 refine C_bodyO Tryz.func51 rfl en_51 Tryz.ntmps51 rfl ?_
 rw [F_scan_scanner_name] at hF
 refine Zqb1 ?_
 refine S_a (v := .str ([] : List UInt8)) rfl ?_
 refine Zqb5 ?_
 refine Zqcj ?_
 refine Zqde ?_
 refine Zqb5 ?_
 refine C_join hF (fun (a17 : Int) s' => OK h ((q0, .cells [.sl 1 (List.map c_u8 p0.b) 0, .int .i64 p0.at_]) :: O) ∧ WS s' ⟨mkSl 81 [(0, .ptr q0 0), (4, .int .i64 a17)], Hp h ((q0, .cells [.sl 1 (List.map c_u8 p0.b) 0, .int .i64 p0.at_]) :: O)⟩) (fun J18 hF => ?_) ?_
 ·refine Zqaw ?_
  refine C_loop (σ := Int) hF (fun (a19 : Int) s' => OK h ((q0, .cells [.sl 1 (List.map c_u8 p0.b) 0, .int .i64 p0.at_]) :: O) ∧ WS s' ⟨mkSl 81 [(0, .ptr q0 0), (4, .int .i64 a19)], Hp h ((q0, .cells [.sl 1 (List.map c_u8 p0.b) 0, .int .i64 p0.at_]) :: O)⟩) ?_ ?_
  ·exact ⟨oy ok, wy ok⟩
  ·rintro G20 hG21 rec22 a19 s' ih23 hF ⟨ok, hws⟩
   refine WP_ws hws ?_
   clear hws s'
   rw [F_scan_scanner_name_l0] at hF
   refine Zqch ?_
   refine Zqfj ?_
   refine Zqa7 ?_
   refine Zqc0 ?_
   refine C_if rfl hF (fun hb24 hF => ?_) fun hb24 hF => ?_
   ·refine Zqea ?_
    refine Zqew ?_
    refine Zqet ?_
    refine Zqah ?_
    refine S_slL rfl ty_sl_22 ty_sz_5 (bd_at rfl) bd_len hF (fun x25 _ hF => ?_)
    refine cl (L_DecodeRune_ok _ hF fun x26 _ hF => ?_)
    refine Zqgj ?_
    refine Zqgg ?_
    refine S_twoJ 17 51 hF (fun J28 hb27 hF => ?_) (fun J28 hb27 hF => ?_) (fun v29 hF => ?_)
    ·refine Zqce ?_
     refine cl (ok_of (fun _ h hF => F_char_IsPart_w _ h hF) _ hF fun x30 _ hF => ?_)
     refine Zqdl ?_
     refine Zqdp ?_
     refine S_twoJ 12 50 hF (fun J32 hb31 hF => ?_) (fun J32 hb31 hF => ?_) (fun v33 hF => ?_)
     ·refine Zqck ?_
      refine Zqdz ?_
      refine Zqcg ?_
      refine Zqb3 ?_
      refine Zqfo ?_
      exact tw
     ·refine Zqce ?_
      refine Zqga ?_
      refine Zqax ?_
      refine Zqb4 ?_
      refine Zqa2 ?_
      refine Zqb4 ?_
      refine Zqbd ?_
      refine Zqdn ?_
      refine Zqdp ?_
      refine S_twoJ 4 49 hF (fun J35 hb34 hF => ?_) (fun J35 hb34 hF => ?_) (fun v36 hF => ?_)
      ·refine Zqce ?_
       refine cl (ok_of (fun _ h hF => F_char_IsStart_w _ h hF) _ hF fun x37 _ hF => ?_)
       refine Zqdl ?_
       refine Zqdv ?_
       exact tw
      ·refine Zqcz ?_
       refine Zqdq ?_
       exact tw
      ·refine Zqdq ?_
       exact tw
     ·refine Zqb8 ?_
      exact tw
    ·refine Zqck ?_
     refine Zqfa ?_
     refine Zqfa ?_
     refine Zqcy ?_
     refine Zqcg ?_
     refine Zqb3 ?_
     refine Zqb9 ?_
     exact tw
    ·refine Zqaa ?_
     refine C_if rfl hF (fun hb38 hF => ?_) fun hb38 hF => ?_
     ·refine Zqcs ?_
      replace hF := hG21 _ (F_some hF)
      exact ⟨a19, hF, oy ok, wy ok⟩
     ·refine Zqfs ?_
      refine Zqdk ?_
      refine ih23 (IntKind.wrap .i64 (a19 + x26.2)) _ hF ?_
      exact ⟨oy ok, wy ok⟩
   ·refine Zqcs ?_
    replace hF := hG21 _ (F_some hF)
    exact ⟨a19, hF, oy ok, wy ok⟩
 ·rintro a17 s' hF ⟨ok, hws⟩
  refine WP_ws hws ?_
  clear hws s'
  refine Zqab ?_
  refine C_drw (mdl []) (by kernel_rfl) (by kernel_rfl) ?_
  refine Zqf9 ?_
  refine Zqah ?_
  refine S_slL rfl ty_sl_22 ty_sz_5 (bd_at rfl) (bd_at rfl) hF (fun x39 _ hF => ?_)
  refine Zqbe ?_
  refine Zqaz ?_
  refine Zqdi ?_
  refine Zqcd ?_
  refine Zqfx ?_
  refine C_if rfl hF (fun hb40 hF => ?_) fun hb40 hF => ?_
  ·refine Zqb1 ?_
   refine S_a (v := .str ([] : List UInt8)) rfl ?_
   refine Zqca ?_
   refine rr ?_
   exact ⟨_, _, (.tupC (.cons (.refl _) (.cons (.refl _) (.nil)))), hy ok, _, F_some hF, rfl, oy ok, rfl⟩
  ·refine Zqc2 ?_
   refine Zqcd ?_
   refine cl (ok_of (fun _ h hF => F_char_Split_w _ h hF) _ hF fun x41 _ hF => ?_)
   refine Zqey ?_
   refine Zqaz ?_
   refine Zqcb ?_
   refine Zqe3 ?_
   refine Zqei ?_
   refine C_if rfl hF (fun hb42 hF => ?_) fun hb42 hF => ?_
   ·refine Zqb1 ?_
    refine S_a (v := .str ([] : List UInt8)) rfl ?_
    refine Zqca ?_
    refine rr ?_
    exact ⟨_, _, (.tupC (.cons (.refl _) (.cons (.refl _) (.nil)))), hy ok, _, F_some hF, rfl, oy ok, rfl⟩
   ·refine Zqed ?_
    refine Zqah ?_
    refine Zqcq ?_
    refine S_st (j := 0) (cs' := [.sl 1 (List.map c_u8 p0.b) 0, .int .i64 a17]) ok rfl rfl rfl hq0 rfl ty_sz_3 rfl rfl (fun ok => ?_)
    refine Zqaa ?_
    refine Zqcd ?_
    refine Zqaz ?_
    refine Zqca ?_
    refine rr ?_
    exact ⟨_, _, (.tupC (.cons (.refl _) (.cons (.refl _) (.nil)))), hy ok, _, F_some hF, rfl, oy ok, rfl⟩
theorem F_scan_scanner_instr_w (p0 : T_scan_scanner) (p1 : T_scan_Token) (q0 : Nat) (q1 : Nat) (b1_3 : Nat) {G : Int × T_scan_scanner × T_scan_Token → Prop} (h : Heap) (O : List (Nat × AObj)) (hq0 : q0 ≠ 0) (hq1 : q1 ≠ 0) (zb1_3 : b1_3 = 0 → p1.Pairs = []) (ok : OK h ((q0, .cells [.sl 1 (List.map c_u8 p0.b) 0, .int .i64 p0.at_]) :: (q1, .cells [.int .i64 p1.Kind, .int .i64 p1.At, .str p1.Name, mslO 2 b1_3 p1.Pairs, .str p1.Text, .int .i64 p1.Refs]) :: mo b1_3 c_T_scan_Pair p1.Pairs :: O)) (hF : OptP (F_scan_scanner_instr p0 p1) G) : CallsA Tryz.prog 28 [.ptr q0 0, .ptr q1 0] (Hp h ((q0, .cells [.sl 1 (List.map c_u8 p0.b) 0, .int .i64 p0.at_]) :: (q1, .cells [.int .i64 p1.Kind, .int .i64 p1.At, .str p1.Name, mslO 2 b1_3 p1.Pairs, .str p1.Text, .int .i64 p1.Refs]) :: mo b1_3 c_T_scan_Pair p1.Pairs :: O)) fun d h' => ∃ r, G r ∧ d = .int .i64 r.1 ∧ ∃ b1_3' : Nat, (b1_3' = 0 → r.2.2.Pairs = []) ∧ OK h ((q0, .cells [.sl 1 (List.map c_u8 r.2.1.b) 0, .int .i64 r.2.1.at_]) :: (q1, .cells [.int .i64 r.2.2.Kind, .int .i64 r.2.2.At, .str r.2.2.Name, mslO 2 b1_3' r.2.2.Pairs, .str r.2.2.Text, .int .i64 r.2.2.Refs]) :: mo b1_3' c_T_scan_Pair r.2.2.Pairs :: O) ∧ h' = Hp h ((q0, .cells [.sl 1 (List.map c_u8 r.2.1.b) 0, .int .i64 r.2.1.at_]) :: (q1, .cells [.int .i64 r.2.2.Kind, .int .i64 r.2.2.At, .str r.2.2.Name, mslO 2 b1_3' r.2.2.Pairs, .str r.2.2.Text, .int .i64 r.2.2.Refs]) :: mo b1_3' c_T_scan_Pair r.2.2.Pairs :: O) := by
 refine CallsA.ret ?_
 refine C_bodyO Tryz.func28 rfl en_28 Tryz.ntmps28 rfl ?_
 rw [F_scan_scanner_instr] at hF
 refine Zqcx ?_
 refine Zqfw ?_
 refine S_st (j := 1) (cs' := [.int .i64 (8 : Int), .int .i64 p1.At, .str p1.Name, mslO 2 b1_3 p1.Pairs, .str p1.Text, .int .i64 p1.Refs]) ok rfl rfl rfl hq1 rfl ty_sz_3 rfl rfl (fun ok => ?_)
 refine Zqdx ?_
 refine Zqde ?_
 refine Zqge ?_
 refine S_st (j := 0) (cs' := [.sl 1 (List.map c_u8 p0.b) 0, .int .i64 (IntKind.wrap .i64 (p0.at_ + (2 : Int)))]) ok rfl rfl rfl hq0 rfl ty_sz_3 rfl rfl (fun ok => ?_)
 refine Zqdx ?_
 refine cl (okT (fun _ hF => F_scan_scanner_name_w (p0 := (⟨p0.b, (IntKind.wrap .i64 (p0.at_ + (2 : Int)))⟩ : T_scan_scanner)) (q0 := q0) h ((q1, .cells [.int .i64 (8 : Int), .int .i64 p1.At, .str p1.Name, mslO 2 b1_3 p1.Pairs, .str p1.Text, .int .i64 p1.Refs]) :: mo b1_3 c_T_scan_Pair p1.Pairs :: O) hq0 ok hF) hF fun x1 _ _ _ hq hF => ?_)
 obtain ⟨rfl, ok, rfl⟩ := hq
 refine Zqfk ?_
 refine Zqeu ?_
 refine Zqfq ?_
 refine Zqa1 ?_
 refine Zqcb ?_
 refine C_if rfl hF (fun hb2 hF => ?_) fun hb2 hF => ?_
 ·refine Zqec ?_
  refine rr ?_
  exact ⟨_, _, (.refl _), hy ok, _, F_some hF, rfl, b1_3, zb1_3, oy ok, rfl⟩
 ·refine Zqcd ?_
  refine cl (ok_of (fun _ h hF => F_char_Name_w _ h hF) _ hF fun x3 _ hF => ?_)
  refine Zqa6 ?_
  refine Zqcb ?_
  refine C_if rfl hF (fun hb4 hF => ?_) fun hb4 hF => ?_
  ·refine Zqdo ?_
   refine rr ?_
   exact ⟨_, _, (.refl _), hy ok, _, F_some hF, rfl, b1_3, zb1_3, oy ok, rfl⟩
  ·refine Zqcd ?_
   refine cl (ok_of (fun _ h hF => F_strings_EqualFold_w _ _ h hF) _ hF fun x5 _ hF => ?_)
   refine Zqcb ?_
   refine C_if rfl hF (fun hb6 hF => ?_) fun hb6 hF => ?_
   ·refine Zqdo ?_
    refine rr ?_
    exact ⟨_, _, (.refl _), hy ok, _, F_some hF, rfl, b1_3, zb1_3, oy ok, rfl⟩
   ·refine Zqed ?_
    refine Zqak ?_
    refine Zqax ?_
    refine S_faP rfl ty_fd_41_2 ty_sz_9 ?_
    refine S_st (j := 1) (cs' := [.int .i64 (8 : Int), .int .i64 p1.At, .str x1.1.1, mslO 2 b1_3 p1.Pairs, .str p1.Text, .int .i64 p1.Refs]) ok rfl rfl rfl hq1 rfl ty_sz_9 rfl rfl (fun ok => ?_)
    refine Zqdi ?_
    refine Zqcj ?_
    refine cl (okT (fun _ hF => F_scan_scanner_here_w _ (p0 := x1.2) (q0 := q0) h ((q1, .cells [.int .i64 (8 : Int), .int .i64 p1.At, .str x1.1.1, mslO 2 b1_3 p1.Pairs, .str p1.Text, .int .i64 p1.Refs]) :: mo b1_3 c_T_scan_Pair p1.Pairs :: O) hq0 ok hF) hF fun x7 _ _ _ hq hF => ?_)
    obtain ⟨rfl, ok, rfl⟩ := hq
    refine Zqaa ?_
    refine C_if rfl hF (fun hb8 hF => ?_) fun hb8 hF => ?_
    ·refine Zqcj ?_
     refine cl (okT (fun _ hF => F_scan_scanner_sign_w _ (p0 := x1.2) (q0 := q0) h ((q1, .cells [.int .i64 (8 : Int), .int .i64 p1.At, .str x1.1.1, mslO 2 b1_3 p1.Pairs, .str p1.Text, .int .i64 p1.Refs]) :: mo b1_3 c_T_scan_Pair p1.Pairs :: O) hq0 ok hF) hF fun x9 _ _ _ hq hF => ?_)
     obtain ⟨rfl, ok, rfl⟩ := hq
     refine Zqca ?_
     refine rr ?_
     exact ⟨_, _, (.refl _), hy ok, _, F_some hF, rfl, b1_3, zb1_3, oy ok, rfl⟩
    ·refine Zqed ?_
     refine Zqeb ?_
     refine cl (okT (fun _ hF => F_scan_scanner_spaces_w _ (p0 := x1.2) (q0 := q0) h ((q1, .cells [.int .i64 (8 : Int), .int .i64 p1.At, .str x1.1.1, mslO 2 b1_3 p1.Pairs, .str p1.Text, .int .i64 p1.Refs]) :: mo b1_3 c_T_scan_Pair p1.Pairs :: O) hq0 ok hF) hF fun x10 _ _ _ hq hF => ?_)
     obtain ⟨rfl, ok, rfl⟩ := hq
     refine Zqdu ?_
     refine Zqeb ?_
     refine Zqdy ?_
     refine C_if rfl hF (fun hb11 hF => ?_) fun hb11 hF => ?_
     ·refine Zqdo ?_
      refine rr ?_
      exact ⟨_, _, (.refl _), hy ok, _, F_some hF, rfl, b1_3, zb1_3, oy ok, rfl⟩
     ·refine Zqed ?_
      refine Zqah ?_
      refine Zqcq ?_
      refine S_st (j := 0) (cs' := [.sl 1 (List.map c_u8 x1.2.b) 0, .int .i64 x10]) ok rfl rfl rfl hq0 rfl ty_sz_3 rfl rfl (fun ok => ?_)
      refine Zqdx ?_
      refine Zqaq ?_
      obtain ⟨hpe, ok⟩ := Hp_pull 2 ok rfl
      rw [hpe]; clear hpe
      obtain ⟨hpe, ok⟩ := Hp_pull 2 ok rfl
      rw [hpe]; clear hpe
      obtain ⟨hpe, ok⟩ := Hp_pull 2 ok rfl
      rw [hpe]; clear hpe
      refine cl (okT (fun _ hF => F_scan_scanner_upTo_w _ _ (p0 := (⟨x1.2.b, x10⟩ : T_scan_scanner)) (p1 := (⟨(8 : Int), p1.At, x1.1.1, p1.Pairs, p1.Text, p1.Refs⟩ : T_scan_Token)) (q0 := q0) (q1 := q1) (b1_3 := b1_3) h (O) hq0 hq1 zb1_3 ok hF) hF fun x12 _ _ _ hq hF => ?_)
      obtain ⟨rfl, u13, zu13, ok, rfl⟩ := hq
      refine Zqca ?_
      refine rr ?_
      exact ⟨_, _, (.refl _), hy ok, _, F_some hF, rfl, u13, zu13, oy ok, rfl⟩
theorem F_scan_scanner_closing_w (p0 : T_scan_scanner) (p1 : T_scan_Token) (q0 : Nat) (q1 : Nat) (b1_3 : Nat) {G : Int × T_scan_scanner × T_scan_Token → Prop} (h : Heap) (O : List (Nat × AObj)) (hq0 : q0 ≠ 0) (hq1 : q1 ≠ 0) (zb1_3 : b1_3 = 0 → p1.Pairs = []) (ok : OK h ((q0, .cells [.sl 1 (List.map c_u8 p0.b) 0, .int .i64 p0.at_]) :: (q1, .cells [.int .i64 p1.Kind, .int .i64 p1.At, .str p1.Name, mslO 2 b1_3 p1.Pairs, .str p1.Text, .int .i64 p1.Refs]) :: mo b1_3 c_T_scan_Pair p1.Pairs :: O)) (hF : OptP (F_scan_scanner_closing p0 p1) G) : CallsA Tryz.prog 29 [.ptr q0 0, .ptr q1 0] (Hp h ((q0, .cells [.sl 1 (List.map c_u8 p0.b) 0, .int .i64 p0.at_]) :: (q1, .cells [.int .i64 p1.Kind, .int .i64 p1.At, .str p1.Name, mslO 2 b1_3 p1.Pairs, .str p1.Text, .int .i64 p1.Refs]) :: mo b1_3 c_T_scan_Pair p1.Pairs :: O)) fun d h' => ∃ r, G r ∧ d = .int .i64 r.1 ∧ ∃ b1_3' : Nat, (b1_3' = 0 → r.2.2.Pairs = []) ∧ OK h ((q0, .cells [.sl 1 (List.map c_u8 r.2.1.b) 0, .int .i64 r.2.1.at_]) :: (q1, .cells [.int .i64 r.2.2.Kind, .int .i64 r.2.2.At, .str r.2.2.Name, mslO 2 b1_3' r.2.2.Pairs, .str r.2.2.Text, .int .i64 r.2.2.Refs]) :: mo b1_3' c_T_scan_Pair r.2.2.Pairs :: O) ∧ h' = Hp h ((q0, .cells [.sl 1 (List.map c_u8 r.2.1.b) 0, .int .i64 r.2.1.at_]) :: (q1, .cells [.int .i64 r.2.2.Kind, .int .i64 r.2.2.At, .str r.2.2.Name, mslO 2 b1_3' r.2.2.Pairs, .str r.2.2.Text, .int .i64 r.2.2.Refs]) :: mo b1_3' c_T_scan_Pair r.2.2.Pairs :: O) := by
 refine CallsA.ret ?_
 refine C_bodyO Tryz.func29 rfl en_29 Tryz.ntmps29 rfl ?_
 rw [F_scan_scanner_closing] at hF
 refine Zqcx ?_
 refine Zqfw ?_
 refine S_st (j := 1) (cs' := [.int .i64 (3 : Int), .int .i64 p1.At, .str p1.Name, mslO 2 b1_3 p1.Pairs, .str p1.Text, .int .i64 p1.Refs]) ok rfl rfl rfl hq1 rfl ty_sz_3 rfl rfl (fun ok => ?_)
 refine Zqdx ?_
 refine Zqde ?_
 refine Zqge ?_
 refine S_st (j := 0) (cs' := [.sl 1 (List.map c_u8 p0.b) 0, .int .i64 (IntKind.wrap .i64 (p0.at_ + (2 : Int)))]) ok rfl rfl rfl hq0 rfl ty_sz_3 rfl rfl (fun ok => ?_)
 refine Zqdx ?_
 refine cl (okT (fun _ hF => F_scan_scanner_name_w (p0 := (⟨p0.b, (IntKind.wrap .i64 (p0.at_ + (2 : Int)))⟩ : T_scan_scanner)) (q0 := q0) h ((q1, .cells [.int .i64 (3 : Int), .int .i64 p1.At, .str p1.Name, mslO 2 b1_3 p1.Pairs, .str p1.Text, .int .i64 p1.Refs]) :: mo b1_3 c_T_scan_Pair p1.Pairs :: O) hq0 ok hF) hF fun x1 _ _ _ hq hF => ?_)
 obtain ⟨rfl, ok, rfl⟩ := hq
 refine Zqfk ?_
 refine Zqdu ?_
 refine Zqdd ?_
 refine C_if rfl hF (fun hb2 hF => ?_) fun hb2 hF => ?_
 ·refine Zqec ?_
  refine rr ?_
  exact ⟨_, _, (.refl _), hy ok, _, F_some hF, rfl, b1_3, zb1_3, oy ok, rfl⟩
 ·refine Zqed ?_
  refine Zqak ?_
  refine Zqax ?_
  refine S_faP rfl ty_fd_41_2 ty_sz_9 ?_
  refine S_st (j := 1) (cs' := [.int .i64 (3 : Int), .int .i64 p1.At, .str x1.1.1, mslO 2 b1_3 p1.Pairs, .str p1.Text, .int .i64 p1.Refs]) ok rfl rfl rfl hq1 rfl ty_sz_9 rfl rfl (fun ok => ?_)
  refine Zqdx ?_
  refine Zqaq ?_
  refine Zqeb ?_
  refine cl (okT (fun _ hF => F_scan_scanner_spaces_w _ (p0 := x1.2) (q0 := q0) h ((q1, .cells [.int .i64 (3 : Int), .int .i64 p1.At, .str x1.1.1, mslO 2 b1_3 p1.Pairs, .str p1.Text, .int .i64 p1.Refs]) :: mo b1_3 c_T_scan_Pair p1.Pairs :: O) hq0 ok hF) hF fun x3 _ _ _ hq hF => ?_)
  obtain ⟨rfl, ok, rfl⟩ := hq
  refine Zqcq ?_
  refine S_st (j := 0) (cs' := [.sl 1 (List.map c_u8 x1.2.b) 0, .int .i64 x3]) ok rfl rfl rfl hq0 rfl ty_sz_3 rfl rfl (fun ok => ?_)
  refine Zqdx ?_
  refine cl (okT (fun _ hF => F_scan_scanner_sign_w _ (p0 := (⟨x1.2.b, x3⟩ : T_scan_scanner)) (q0 := q0) h ((q1, .cells [.int .i64 (3 : Int), .int .i64 p1.At, .str x1.1.1, mslO 2 b1_3 p1.Pairs, .str p1.Text, .int .i64 p1.Refs]) :: mo b1_3 c_T_scan_Pair p1.Pairs :: O) hq0 ok hF) hF fun x4 _ _ _ hq hF => ?_)
  obtain ⟨rfl, ok, rfl⟩ := hq
  refine Zqca ?_
  refine rr ?_
  exact ⟨_, _, (.refl _), hy ok, _, F_some hF, rfl, b1_3, zb1_3, oy ok, rfl⟩
theorem F_refer_digit_w (p0 : Int) {G : Int → Prop} (h : Heap) (hF : OptP (F_refer_digit p0) G) : CallsA Tryz.prog 114 [.int .u8 p0] h fun d h' => ∃ r, G r ∧ d = .int .i64 r ∧ h' = h := by
 refine CallsA.ret ?_
 refine C_body Tryz.func114 rfl en_114 Tryz.ntmps114 rfl (fun ok => ?_)
 rw [F_refer_digit] at hF
 refine Zqgb ?_
 refine Zqaw ?_
 refine Zqd3 ?_
 refine S_two (b := (decide ((48 : Int) ≤ p0))) 3 9 (.bool ((decide ((48 : Int) ≤ p0)) && (decide (p0 ≤ (57 : Int))))) (fun hb1 => ?_) (fun hb1 => ?_) ?_
 ·refine Zqdm ?_
  exact th
 ·refine Zqcv ?_
  exact th
 refine Zqcb ?_
 refine C_if rfl hF (fun hb2 hF => ?_) fun hb2 hF => ?_
 ·refine Zqb7 ?_
  refine Zqbf ?_
  refine Zqbo ?_
  refine Zqca ?_
  exact rt
 ·refine Zqd3 ?_
  refine S_two (b := (decide ((97 : Int) ≤ p0))) 3 19 (.bool ((decide ((97 : Int) ≤ p0)) && (decide (p0 ≤ (102 : Int))))) (fun hb3 => ?_) (fun hb3 => ?_) ?_
  ·refine Zqdm ?_
   exact th
  ·refine Zqcv ?_
   exact th
  refine Zqcb ?_
  refine C_if rfl hF (fun hb4 hF => ?_) fun hb4 hF => ?_
  ·refine Zqb7 ?_
   refine Zqbf ?_
   refine Zqbo ?_
   refine Zqat ?_
   refine Zqca ?_
   exact rt
  ·refine Zqd3 ?_
   refine S_two (b := (decide ((65 : Int) ≤ p0))) 3 30 (.bool ((decide ((65 : Int) ≤ p0)) && (decide (p0 ≤ (70 : Int))))) (fun hb5 => ?_) (fun hb5 => ?_) ?_
   ·refine Zqdm ?_
    exact th
   ·refine Zqcv ?_
    exact th
   refine Zqcb ?_
   refine C_if rfl hF (fun hb6 hF => ?_) fun hb6 hF => ?_
   ·refine Zqb7 ?_
    refine Zqbf ?_
    refine Zqbo ?_
    refine Zqat ?_
    refine Zqca ?_
    exact rt
   ·refine Zqal ?_
    refine Zqdo ?_
    exact rt
theorem F_refer_meant_w (p0 : List UInt8) {G : Int × Int → Prop} (h : Heap) (hF : OptP (F_refer_meant p0) G) : CallsA Tryz.prog 110 [.str p0] h fun d h' => ∃ r, G r ∧ d = .tup [.int .i32 r.1, .int .i64 r.2] ∧ h' = h := by
 refine CallsA.ret ?_
 refine C_body Tryz.func110 rfl en_110 Tryz.ntmps110 rfl (fun ok => ?_)
 rw [F_refer_meant] at hF
 refine Zqb1 ?_
 refine Zqcn ?_
 refine Zqe2 ?_
 refine Zqaa ?_
 refine Zqaw ?_
 refine Zqfv ?_
 refine C_if rfl hF (fun hb1 hF => ?_) fun hb1 hF => ?_
 ·refine Zqd6 ?_
  exact rt
 ·refine Zqfv ?_
  refine C_if rfl hF (fun hb2 hF => ?_) fun hb2 hF => ?_
  ·refine Zqd6 ?_
   exact rt
  ·refine Zqfv ?_
   refine C_if rfl hF (fun hb3 hF => ?_) fun hb3 hF => ?_
   ·refine Zqd6 ?_
    exact rt
   ·refine Zqfv ?_
    refine C_if rfl hF (fun hb4 hF => ?_) fun hb4 hF => ?_
    ·refine Zqd6 ?_
     exact rt
    ·refine Zqfv ?_
     refine C_if rfl hF (fun hb5 hF => ?_) fun hb5 hF => ?_
     ·refine Zqd6 ?_
      exact rt
     ·refine Zqeo ?_
      refine cl (ok_of (fun _ h hF => F_strings_CutPrefix_w _ _ h hF) _ hF fun x6 _ hF => ?_)
      refine Zqfk ?_
      refine Zqcb ?_
      refine Zqcx ?_
      refine C_join hF (fun (v : (List UInt8) × Int) s' => match v with | (a9, a10) => OK h [] ∧ WS s' ⟨mkSl 67 [(4, .str a9), (5, .bool x6.2), (6, .int .i64 a10)], Hp h []⟩) (fun J11 hF => ?_) ?_
      ·refine Zqcd ?_
       refine cl (ok_of (fun _ h hF => F_strings_CutPrefix_w _ _ h hF) _ hF fun x12 _ hF => ?_)
       refine Zqfk ?_
       refine Zqcb ?_
       refine Zqb1 ?_
       refine Zqc5 ?_
       refine C_if rfl hF (fun hb13 hF => ?_) fun hb13 hF => ?_
       ·refine Zqac ?_
        refine Zqak ?_
        refine Zqaz ?_
        refine Zqb5 ?_
        exact ⟨(x12.1, (16 : Int)), hF, oy ok, wy ok⟩
       ·refine Zqal ?_
        exact ⟨(x6.1, (10 : Int)), hF, oy ok, wy ok⟩
      ·rintro ⟨a9, a10⟩ s' hF ⟨ok, hws⟩
       refine WP_ws hws ?_
       clear hws s'
       refine Zqab ?_
       refine Zqe3 ?_
       refine Zqa6 ?_
       refine Zqam ?_
       refine S_two (b := (!x6.2)) 3 41 (.bool ((!x6.2) || (a9 == ([] : List UInt8)))) (fun hb14 => ?_) (fun hb14 => ?_) ?_
       ·refine Zqc9 ?_
        exact th
       ·refine Zqc1 ?_
        refine Zqba ?_
        refine Zqcp ?_
        exact th
       refine Zqaa ?_
       refine C_if rfl hF (fun hb15 hF => ?_) fun hb15 hF => ?_
       ·refine Zqd6 ?_
        exact rt
       ·refine Zqal ?_
        refine Zqcx ?_
        refine C_join hF (fun (a22 : Int) s' => OK h [] ∧ WS s' ⟨mkSl 67 [(9, .int .i64 a22)], Hp h []⟩) (fun J23 hF => ?_) ?_
        ·refine Zqcd ?_
         refine Zqbk ?_
         refine Zqa7 ?_
         refine Zqfc ?_
         refine C_loop (σ := Int × Int) hF (fun (v : Int × Int) s' => match v with | (a24, a25) => OK h [] ∧ WS s' ⟨mkSl 67 [(6, .int .i64 a10), (9, .int .i64 a24), (43, .sl 1 (List.map c_u8 a9) 0), (44, .int .i64 (a9.length : Int)), (45, .int .i64 a25)], Hp h []⟩) ?_ ?_
         ·exact ⟨oy ok, wy ok⟩
         ·rintro G26 hG27 rec28 ⟨a24, a25⟩ s' ih29 hF ⟨ok, hws⟩
          refine WP_ws hws ?_
          clear hws s'
          rw [F_refer_meant_l0] at hF
          refine Zqfe ?_
          refine C_if rfl hF (fun hb30 hF => ?_) fun hb30 hF => ?_
          ·refine Zqem ?_
           refine Zqb1 ?_
           refine S_ix rfl rfl ty_sl_22 ty_sz_5 hF (fun x31 _ hF => ?_)
           refine Zqbc ?_
           refine Zqe6 ?_
           refine cl (ok_of (fun _ h hF => F_refer_digit_w _ h hF) _ hF fun x32 _ hF => ?_)
           refine Zqdu ?_
           refine Zqah ?_
           refine Zqa0 ?_
           refine Zqaa ?_
           refine C_if rfl hF (fun hb33 hF => ?_) fun hb33 hF => ?_
           ·refine Zqd6 ?_
            replace hF := hG27 _ (F_some hF)
            exact rt
           ·refine Zqfs ?_
            refine Zqah ?_
            refine S_bin rfl rfl (ev_mul ..) ?_
            refine Zqcm ?_
            refine S_min rfl rfl ?_
            refine Zqb5 ?_
            refine Zqfg ?_
            refine ih29 ((if (1114112 : Int) < (IntKind.wrap .i64 ((IntKind.wrap .i64 (a24 * a10)) + x32)) then (1114112 : Int) else (IntKind.wrap .i64 ((IntKind.wrap .i64 (a24 * a10)) + x32))), (IntKind.wrap .i64 (a25 + (1 : Int)))) _ hF ?_
            exact ⟨oy ok, wy ok⟩
          ·refine Zqcs ?_
           replace hF := hG27 _ (F_some hF)
           exact ⟨a24, hF, oy ok, wy ok⟩
        ·rintro a22 s' hF ⟨ok, hws⟩
         refine WP_ws hws ?_
         clear hws s'
         refine Zqch ?_
         refine Zqby ?_
         refine cl (ok_of (fun _ h hF => F_char_IsChar_w _ h hF) _ hF fun x34 _ hF => ?_)
         refine Zqei ?_
         refine C_if rfl hF (fun hb35 hF => ?_) fun hb35 hF => ?_
         ·refine Zqd6 ?_
          exact rt
         ·refine Zqfl ?_
          refine Zqby ?_
          refine Zqcf ?_
          exact rt
theorem F_refer_Expand_w (p0 : List UInt8) (p1 : Int) {G : Int × Int × Int → Prop} (h : Heap) (hF : OptP (F_refer_Expand p0 p1) G) : CallsA Tryz.prog 103 [.sl 1 (List.map c_u8 p0) 0, .int .i64 p1] h fun d h' => ∃ r, G r ∧ d = .tup [.int .i32 r.1, .int .i64 r.2.1, .int .i64 r.2.2] ∧ h' = h := by
 refine CallsA.ret ?_
 refine C_body Tryz.func103 rfl en_103 Tryz.ntmps103 rfl (fun ok => ?_)
 rw [F_refer_Expand] at hF
 refine Zqb1 ?_
 refine Zqai ?_
 refine Zqds ?_
 refine Zqen ?_
 refine S_two (b := (decide (p1 < (0 : Int)))) 5 17 (.bool ((decide (p1 < (0 : Int))) || (decide ((p0.length : Int) ≤ p1)))) (fun hb1 => ?_) (fun hb1 => ?_) ?_
 ·refine Zqf6 ?_
  exact th
 ·refine Zqce ?_
  refine Zqc3 ?_
  refine Zqez ?_
  refine Zqa0 ?_
  refine Zqcp ?_
  exact th
 refine Zqam ?_
 refine S_twoJ 6 24 hF (fun J3 hb2 hF => ?_) (fun J3 hb2 hF => ?_) (fun v4 hF => ?_)
 ·refine Zqfn ?_
  exact tw
 ·refine Zqek ?_
  refine S_ix rfl rfl ty_sl_22 ty_sz_5 hF (fun x5 _ hF => ?_)
  refine Zqd4 ?_
  refine Zqgk ?_
  exact tw
 ·refine Zqaa ?_
  refine C_if rfl hF (fun hb6 hF => ?_) fun hb6 hF => ?_
  ·refine Zqfh ?_
   exact rt
  ·refine Zqal ?_
   refine Zqd8 ?_
   refine S_slL rfl ty_sl_22 ty_sz_5 (bd_at rfl) bd_len hF (fun x7 _ hF => ?_)
   refine cl (L_bIndexByte_ok _ hF fun x8 _ hF => ?_)
   refine Zqgd ?_
   refine C_if rfl hF (fun hb9 hF => ?_) fun hb9 hF => ?_
   ·refine Zqfh ?_
    exact rt
   ·refine Zqal ?_
    refine Zqcu ?_
    refine Zqcm ?_
    refine Zqah ?_
    refine Zqcm ?_
    refine S_slL rfl ty_sl_22 ty_sz_5 (bd_at rfl) (bd_at rfl) hF (fun x10 _ hF => ?_)
    refine Zqbe ?_
    refine cl (ok_of (fun _ h hF => F_refer_meant_w _ h hF) _ hF fun x11 _ hF => ?_)
    refine Zqcw ?_
    refine Zqes ?_
    refine C_if rfl hF (fun hb12 hF => ?_) fun hb12 hF => ?_
    ·refine Zqb7 ?_
     refine Zqeg ?_
     exact rt
    ·refine Zqal ?_
     refine Zqd5 ?_
     refine Zqcm ?_
     refine Zqat ?_
     refine Zqeg ?_
     exact rt
theorem F_refer_read_w (p0 : List UInt8) (p1 : Bool) {G : (List UInt8) × Int × Int → Prop} (h : Heap) (hF : OptP (F_refer_read p0 p1) G) : CallsA Tryz.prog 80 [.sl 1 (List.map c_u8 p0) 0, .bool p1] h fun d h' => ∃ r, G r ∧ d = .tup [.str r.1, .int .i64 r.2.1, .int .i64 r.2.2] ∧ h' = h := by
 refine CallsA.ret ?_
 refine C_body Tryz.func80 rfl en_80 Tryz.ntmps80 rfl (fun ok => ?_)
 rw [F_refer_read] at hF
 refine Zqb1 ?_
 refine S_a (v := .str ([] : List UInt8)) rfl ?_
 refine Zqcn ?_
 refine Zqb1 ?_
 refine S_a (v := .snil) rfl ?_
 refine S_ghost 7 1 ok rfl rfl ?_
 intro r1 hr1 ok
 refine Zqaa ?_
 refine C_join hF (fun (a52 : (List UInt8)) s' => ∃ g53 : Nat, g53 ≠ 0 ∧ OK h [(g53, .room)] ∧ WS s' ⟨mkSl 79 [(7, .sl 1 (List.map c_u8 a52) g53)], Hp h [(g53, .room)]⟩) (fun J54 hF => ?_) ?_
 ·refine Zqd9 ?_
  refine C_loop (σ := (List UInt8) × Int) hF (fun (v : (List UInt8) × Int) s' => match v with | (a55, a57) => ∃ g56 : Nat, g56 ≠ 0 ∧ OK h [(g56, .room)] ∧ WS s' ⟨mkSl 79 [(0, .sl 1 (List.map c_u8 p0) 0), (1, .bool p1), (7, .sl 1 (List.map c_u8 a55) g56), (8, .int .i64 a57)], Hp h [(g56, .room)]⟩) ?_ ?_
  ·exact ⟨r1, hr1, oy ok, wy ok⟩
  ·rintro G58 hG59 rec60 ⟨a55, a57⟩ s' ih61 hF ⟨g56, hg56, ok, hws⟩
   refine WP_ws hws ?_
   clear hws s'
   rw [F_refer_read_l0] at hF
   refine Zqf8 ?_
   refine C_if rfl hF (fun hb62 hF => ?_) fun hb62 hF => ?_
   ·refine Zqea ?_
    refine Zqd8 ?_
    refine cl (ok_of (fun _ h hF => F_char_Next_w _ _ h hF) _ hF fun x63 _ hF => ?_)
    refine Zqdt ?_
    refine Zqfp ?_
    refine C_join hF (fun (v : Int × Int) s' => match v with | (a85, a86) => OK h [(g56, .room)] ∧ WS s' ⟨mkSl 79 [(0, .sl 1 (List.map c_u8 p0) 0), (1, .bool p1), (7, .sl 1 (List.map c_u8 a55) g56), (9, .int .i32 a85), (10, .int .i64 a86)], Hp h [(g56, .room)]⟩) (fun J87 hF => ?_) ?_
    ·refine Zqfq ?_
     refine Zqa1 ?_
     refine Zqcb ?_
     refine C_if rfl hF (fun hb88 hF => ?_) fun hb88 hF => ?_
     ·refine Zqd5 ?_
      refine S_a (v := .str ([] : List UInt8)) rfl ?_
      refine Zqcf ?_
      replace hF := hG59 _ (F_some hF)
      exact rt
     ·refine Zqab ?_
      refine C_reg (mdl [(38, 5), (39, 5)]) ?_
      refine Zqah ?_
      refine Zqdr ?_
      refine S_twoJ 11 42 hF (fun J90 hb89 hF => ?_) (fun J90 hb89 hF => ?_) (fun v91 hF => ?_)
      ·refine Zqdz ?_
       refine Zqfa ?_
       refine Zqee ?_
       exact tw
      ·refine Zqb2 ?_
       refine Zqam ?_
       refine Zqdl ?_
       refine Zqdp ?_
       refine S_twoJ 7 41 hF (fun J93 hb92 hF => ?_) (fun J93 hb92 hF => ?_) (fun v94 hF => ?_)
       ·refine Zqek ?_
        refine S_slL rfl ty_sl_22 ty_sz_5 (bd_at rfl) bd_len hF (fun x95 _ hF => ?_)
        refine Zqb4 ?_
        refine S_lit5 (cs := [.int .u8 93, .int .u8 93, .int .u8 62]) ok rfl ty_el_22 rfl (by kernel_rfl) ?_
        intro i96 hi96 ok
        refine Zqb4 ?_
        refine S_cvt (v := .sl 1 (List.map c_u8 ([93, 93, 62] : List UInt8)) 0) (by kernel_rfl) 0 ok rfl rfl hi96 rfl ty_sl_22 ty_ki_5 rfl rfl (fun ok => ?_)
        refine Zqb4 ?_
        refine cl (ok_of (fun _ h hF => F_bytes_HasPrefix_w _ _ h hF) _ hF fun x98 _ hF => ?_)
        refine Zqdv ?_
        exact tw
       ·refine Zqck ?_
        refine Zqej ?_
        exact tw
       ·refine Zqb9 ?_
        exact tw
      ·refine Zqcb ?_
       refine C_if rfl hF (fun hb99 hF => ?_) fun hb99 hF => ?_
       ·refine Zqb7 ?_
        refine S_a (v := .str ([] : List UInt8)) rfl ?_
        refine Zqcf ?_
        replace hF := hG59 _ (F_some hF)
        exact rt
       ·refine Zqb7 ?_
        refine Zqf5 ?_
        refine C_if rfl hF (fun hb100 hF => ?_) fun hb100 hF => ?_
        ·refine Zqd8 ?_
         refine cl (ok_of (fun _ h hF => F_refer_Expand_w _ _ h hF) _ hF fun x101 _ hF => ?_)
         refine Zqdt ?_
         refine Zqfp ?_
         refine Zqb7 ?_
         refine Zqdd ?_
         refine C_if rfl hF (fun hb102 hF => ?_) fun hb102 hF => ?_
         ·refine Zqd5 ?_
          refine S_a (v := .str ([] : List UInt8)) rfl ?_
          refine Zqcf ?_
          replace hF := hG59 _ (F_some hF)
          exact rt
         ·refine Zqal ?_
          exact ⟨(x101.1, x101.2.1), hF, oy ok, wy ok⟩
        ·refine Zqe3 ?_
         refine Zqam ?_
         refine S_two (b := p1) 11 71 (.bool (p1 && (((x63.1 == (9 : Int)) || (x63.1 == (10 : Int))) || (x63.1 == (13 : Int))))) (fun hb103 => ?_) (fun hb103 => ?_) ?_
         ·refine Zqda ?_
          refine Zqdp ?_
          refine S_two (b := (x63.1 == (9 : Int))) 3 66 (.bool ((x63.1 == (9 : Int)) || (x63.1 == (10 : Int)))) (fun hb106 => ?_) (fun hb106 => ?_) ?_
          ·refine Zqb6 ?_
           refine Zqfo ?_
           exact th
          ·refine Zqda ?_
           refine Zqfz ?_
           exact th
          refine Zqf0 ?_
          refine S_two (b := ((x63.1 == (9 : Int)) || (x63.1 == (10 : Int)))) 3 70 (.bool (((x63.1 == (9 : Int)) || (x63.1 == (10 : Int))) || (x63.1 == (13 : Int)))) (fun hb107 => ?_) (fun hb107 => ?_) ?_
          ·refine Zqb6 ?_
           refine Zqfo ?_
           exact th
          ·refine Zqda ?_
           refine Zqfz ?_
           exact th
          refine Zqb8 ?_
          exact th
         ·refine Zqdz ?_
          refine Zqb6 ?_
          refine Zqcy ?_
          refine Zqb3 ?_
          refine Zqb9 ?_
          exact th
         refine Zqcb ?_
         refine C_if rfl hF (fun hb108 hF => ?_) fun hb108 hF => ?_
         ·refine Zqac ?_
          refine Zqb5 ?_
          exact ⟨((32 : Int), x63.2.1), hF, oy ok, wy ok⟩
         ·refine Zqal ?_
          exact ⟨(x63.1, x63.2.1), hF, oy ok, wy ok⟩
    ·rintro ⟨a85, a86⟩ s' hF ⟨ok, hws⟩
     refine WP_ws hws ?_
     clear hws s'
     refine Zqab ?_
     refine C_reg (mdl [(75, 2)]) ?_
     refine Zqgi ?_
     refine S_conv rfl (e_cr ty_ki_9 ty_fa_9 ty_st_9 ty_un_21) ?_
     refine S_appS (j := 0) ok rfl rfl rfl rfl hg56 ty_el_22 ty_ni_9 hF ?_
     intro r109 hr109 ok hF
     refine Zqd0 ?_
     refine Zqdj ?_
     refine Zqb5 ?_
     refine ih61 ((a55 ++ (Utf8.encode a85).data.toList), a86) _ hF ?_
     exact ⟨r109, hr109, oy ok, wy ok⟩
   ·refine Zqcs ?_
    replace hF := hG59 _ (F_some hF)
    exact ⟨a55, hF, g56, hg56, oy ok, wy ok⟩
 ·rintro a52 s' hF ⟨g53, hg53, ok, hws⟩
  refine WP_ws hws ?_
  clear hws s'
  refine Zqcu ?_
  refine S_one 77 (v := .sl 1 (List.map c_u8 a52) 0) (.zero _ _ _) ?_
  refine Zqbe ?_
  refine Zqaz ?_
  refine Zqcf ?_
  exact rt
theorem F_refer_ReadValue_w (p0 : List UInt8) {G : (List UInt8) × Int × Int → Prop} (h : Heap) (hF : OptP (F_refer_ReadValue p0) G) : CallsA Tryz.prog 53 [.sl 1 (List.map c_u8 p0) 0] h fun d h' => ∃ r, G r ∧ d = .tup [.str r.1, .int .i64 r.2.1, .int .i64 r.2.2] ∧ h' = h := by
 refine CallsA.ret ?_
 refine C_body Tryz.func53 rfl en_53 Tryz.ntmps53 rfl (fun ok => ?_)
 rw [F_refer_ReadValue] at hF
 refine Zqb1 ?_
 refine S_a (v := .str ([] : List UInt8)) rfl ?_
 refine Zqcn ?_
 refine Zqcu ?_
 refine cl (ok_of (fun _ h hF => F_refer_read_w _ _ h hF) _ hF fun x1 _ hF => ?_)
 refine Zqco ?_
 refine Zqar ?_
 refine Zqaz ?_
 refine Zqcf ?_
 exact rt
theorem F_scan_scanner_tag_w (p0 : T_scan_scanner) (p1 : T_scan_Token) (q0 : Nat) (q1 : Nat) (b1_3 : Nat) {G : Int × T_scan_scanner × T_scan_Token → Prop} (h : Heap) (O : List (Nat × AObj)) (hq0 : q0 ≠ 0) (hq1 : q1 ≠ 0) (zb1_3 : b1_3 = 0 → p1.Pairs = []) (ok : OK h ((q0, .cells [.sl 1 (List.map c_u8 p0.b) 0, .int .i64 p0.at_]) :: (q1, .cells [.int .i64 p1.Kind, .int .i64 p1.At, .str p1.Name, mslO 2 b1_3 p1.Pairs, .str p1.Text, .int .i64 p1.Refs]) :: mo b1_3 c_T_scan_Pair p1.Pairs :: O)) (hF : OptP (F_scan_scanner_tag p0 p1) G) : CallsA Tryz.prog 30 [.ptr q0 0, .ptr q1 0] (Hp h ((q0, .cells [.sl 1 (List.map c_u8 p0.b) 0, .int .i64 p0.at_]) :: (q1, .cells [.int .i64 p1.Kind, .int .i64 p1.At, .str p1.Name, mslO 2 b1_3 p1.Pairs, .str p1.Text, .int .i64 p1.Refs]) :: mo b1_3 c_T_scan_Pair p1.Pairs :: O)) fun d h' => ∃ r, G r ∧ d = .int .i64 r.1 ∧ ∃ b1_3' : Nat, (b1_3' = 0 → r.2.2.Pairs = []) ∧ OK h ((q0, .cells [.sl 1 (List.map c_u8 r.2.1.b) 0, .int .i64 r.2.1.at_]) :: (q1, .cells [.int .i64 r.2.2.Kind, .int .i64 r.2.2.At, .str r.2.2.Name, mslO 2 b1_3' r.2.2.Pairs, .str r.2.2.Text, .int .i64 r.2.2.Refs]) :: mo b1_3' c_T_scan_Pair r.2.2.Pairs :: O) ∧ h' = Hp h ((q0, .cells [.sl 1 (List.map c_u8 r.2.1.b) 0, .int .i64 r.2.1.at_]) :: (q1, .cells [.int .i64 r.2.2.Kind, .int .i64 r.2.2.At, .str r.2.2.Name, mslO 2 b1_3' r.2.2.Pairs, .str r.2.2.Text, .int .i64 r.2.2.Refs]) :: mo b1_3' c_T_scan_Pair r.2.2.Pairs :: O) := by
 refine CallsA.ret ?_
 refine C_bodyO Tryz.func30 rfl en_30 Tryz.ntmps30 rfl ?_
 rw [F_scan_scanner_tag] at hF
 refine Zqcx ?_
 refine WP_scope ?_
 refine JW_step ?_
 refine Zqgb ?_
 refine C_reg (mdl [(6, 1)]) ?_
 refine S_all1 ok rfl ty_zc_44 ?_
 intro i1 hi1 ok
 refine Zqaa ?_
 refine Zqb1 ?_
 refine S_a (v := .snil) rfl ?_
 refine S_one 7 (v := .sl 1 (List.map c_u8 ([] : List UInt8)) 0) (.nil _) ?_
 refine Zqdx ?_
 refine Zqcq ?_
 refine Zqbv ?_
 refine Zqge ?_
 refine S_st (j := 1) (cs' := [.sl 1 (List.map c_u8 p0.b) 0, .int .i64 (IntKind.wrap .i64 (p0.at_ + (1 : Int)))]) ok rfl rfl rfl hq0 rfl ty_sz_3 rfl rfl (fun ok => ?_)
 refine Zqdx ?_
 obtain ⟨hpe, ok⟩ := Hp_pull 1 ok rfl
 rw [hpe]; clear hpe
 refine cl (okT (fun _ hF => F_scan_scanner_name_w (p0 := (⟨p0.b, (IntKind.wrap .i64 (p0.at_ + (1 : Int)))⟩ : T_scan_scanner)) (q0 := q0) h ((i1, .cells [.str ([] : List UInt8), .str ([] : List UInt8)]) :: (q1, .cells [.int .i64 p1.Kind, .int .i64 p1.At, .str p1.Name, mslO 2 b1_3 p1.Pairs, .str p1.Text, .int .i64 p1.Refs]) :: mo b1_3 c_T_scan_Pair p1.Pairs :: O) hq0 ok hF) hF fun x2 _ _ _ hq hF => ?_)
 obtain ⟨rfl, ok, rfl⟩ := hq
 refine Zqfk ?_
 refine Zqdu ?_
 refine Zqdd ?_
 refine C_if rfl hF (fun hb3 hF => ?_) fun hb3 hF => ?_
 ·refine Zqec ?_
  refine rr ?_
  exact ⟨_, _, (.refl _), hy ok, _, F_some hF, rfl, b1_3, zb1_3, oy ok, rfl⟩
 ·refine Zqed ?_
  refine Zqaq ?_
  refine Zqak ?_
  refine Zqax ?_
  refine S_faP rfl ty_fd_41_2 ty_sz_9 ?_
  refine S_st (j := 2) (cs' := [.int .i64 p1.Kind, .int .i64 p1.At, .str x2.1.1, mslO 2 b1_3 p1.Pairs, .str p1.Text, .int .i64 p1.Refs]) ok rfl rfl rfl hq1 rfl ty_sz_9 rfl rfl (fun ok => ?_)
  refine Zqax ?_
  refine Zqbm ?_
  refine S_st (j := 2) (cs' := [.int .i64 (2 : Int), .int .i64 p1.At, .str x2.1.1, mslO 2 b1_3 p1.Pairs, .str p1.Text, .int .i64 p1.Refs]) ok rfl rfl rfl hq1 rfl ty_sz_3 rfl rfl (fun ok => ?_)
  refine Zqdi ?_
  refine WP_label ?_
  refine C_gloop (σ := (List UInt8) × Int × Int × Int × (List UInt8) × (List T_scan_Pair) × (List UInt8) × Int × (List UInt8) × (List UInt8)) hF (fun (v : (List UInt8) × Int × Int × Int × (List UInt8) × (List T_scan_Pair) × (List UInt8) × Int × (List UInt8) × (List UInt8)) s' => match v with | (a4, a5, a6, a7, a8, a10, a11, a12, a13, a14) => ∃ g9 : Nat, (g9 = 0 → a10 = []) ∧ OK h ((q0, .cells [.sl 1 (List.map c_u8 a4) 0, .int .i64 a5]) :: (i1, .cells [.str a13, .str a14]) :: (q1, .cells [.int .i64 a6, .int .i64 a7, .str a8, mslO 2 g9 a10, .str a11, .int .i64 a12]) :: mo g9 c_T_scan_Pair a10 :: O) ∧ WS s' ⟨mkSl 118 [(0, .ptr q0 0), (1, .ptr q1 0), (6, .ptr i1 0)], Hp h ((q0, .cells [.sl 1 (List.map c_u8 a4) 0, .int .i64 a5]) :: (i1, .cells [.str a13, .str a14]) :: (q1, .cells [.int .i64 a6, .int .i64 a7, .str a8, mslO 2 g9 a10, .str a11, .int .i64 a12]) :: mo g9 c_T_scan_Pair a10 :: O)⟩) ?_ ?_
  ·exact ⟨b1_3, zb1_3, oy ok, wy ok⟩
  ·rintro G15 hG16 rec17 ⟨a4, a5, a6, a7, a8, a10, a11, a12, a13, a14⟩ s' ih18 hF ⟨g9, zg9, ok, hws⟩
   refine WP_ws hws ?_
   clear hws s'
   rw [F_scan_scanner_tag_l0] at hF
   refine Zqcj ?_
   refine Zqde ?_
   refine Zqb5 ?_
   refine Zqe1 ?_
   refine Zqah ?_
   refine cl (okT (fun _ hF => F_scan_scanner_spaces_w _ (p0 := (⟨a4, a5⟩ : T_scan_scanner)) (q0 := q0) h ((i1, .cells [.str a13, .str a14]) :: (q1, .cells [.int .i64 a6, .int .i64 a7, .str a8, mslO 2 g9 a10, .str a11, .int .i64 a12]) :: mo g9 c_T_scan_Pair a10 :: O) hq0 ok hF) hF fun x19 _ _ _ hq hF => ?_)
   obtain ⟨rfl, ok, rfl⟩ := hq
   refine Zqcq ?_
   refine S_st (j := 0) (cs' := [.sl 1 (List.map c_u8 a4) 0, .int .i64 x19]) ok rfl rfl rfl hq0 rfl ty_sz_3 rfl rfl (fun ok => ?_)
   refine Zqdi ?_
   refine Zqcj ?_
   refine cl (okT (fun _ hF => F_scan_scanner_here_w _ (p0 := (⟨a4, x19⟩ : T_scan_scanner)) (q0 := q0) h ((i1, .cells [.str a13, .str a14]) :: (q1, .cells [.int .i64 a6, .int .i64 a7, .str a8, mslO 2 g9 a10, .str a11, .int .i64 a12]) :: mo g9 c_T_scan_Pair a10 :: O) hq0 ok hF) hF fun x20 _ _ _ hq hF => ?_)
   obtain ⟨rfl, ok, rfl⟩ := hq
   refine Zqaa ?_
   refine C_if rfl hF (fun hb21 hF => ?_) fun hb21 hF => ?_
   ·refine Zqfw ?_
    refine S_st (j := 2) (cs' := [.int .i64 (4 : Int), .int .i64 a7, .str a8, mslO 2 g9 a10, .str a11, .int .i64 a12]) ok rfl rfl rfl hq1 rfl ty_sz_3 rfl rfl (fun ok => ?_)
    refine Zqdx ?_
    refine cl (okT (fun _ hF => F_scan_scanner_sign_w _ (p0 := (⟨a4, x19⟩ : T_scan_scanner)) (q0 := q0) h ((i1, .cells [.str a13, .str a14]) :: (q1, .cells [.int .i64 (4 : Int), .int .i64 a7, .str a8, mslO 2 g9 a10, .str a11, .int .i64 a12]) :: mo g9 c_T_scan_Pair a10 :: O) hq0 ok hF) hF fun x22 _ _ _ hq hF => ?_)
    obtain ⟨rfl, ok, rfl⟩ := hq
    refine Zqca ?_
    replace hF := hG16 _ (F_some hF)
    refine rr ?_
    exact ⟨_, _, (.refl _), hy ok, _, F_some hF, rfl, g9, zg9, oy ok, rfl⟩
   ·refine Zqc2 ?_
    refine Zqcj ?_
    refine cl (okT (fun _ hF => F_scan_scanner_here_w _ (p0 := (⟨a4, x19⟩ : T_scan_scanner)) (q0 := q0) h ((i1, .cells [.str a13, .str a14]) :: (q1, .cells [.int .i64 a6, .int .i64 a7, .str a8, mslO 2 g9 a10, .str a11, .int .i64 a12]) :: mo g9 c_T_scan_Pair a10 :: O) hq0 ok hF) hF fun x23 _ _ _ hq hF => ?_)
    obtain ⟨rfl, ok, rfl⟩ := hq
    refine Zqaa ?_
    refine C_if rfl hF (fun hb24 hF => ?_) fun hb24 hF => ?_
    ·refine Zqcj ?_
     refine cl (okT (fun _ hF => F_scan_scanner_sign_w _ (p0 := (⟨a4, x19⟩ : T_scan_scanner)) (q0 := q0) h ((i1, .cells [.str a13, .str a14]) :: (q1, .cells [.int .i64 a6, .int .i64 a7, .str a8, mslO 2 g9 a10, .str a11, .int .i64 a12]) :: mo g9 c_T_scan_Pair a10 :: O) hq0 ok hF) hF fun x25 _ _ _ hq hF => ?_)
     obtain ⟨rfl, ok, rfl⟩ := hq
     refine Zqca ?_
     replace hF := hG16 _ (F_some hF)
     refine rr ?_
     exact ⟨_, _, (.refl _), hy ok, _, F_some hF, rfl, g9, zg9, oy ok, rfl⟩
    ·refine Zqc2 ?_
     refine Zqcj ?_
     refine Zqde ?_
     refine Zqah ?_
     refine Zqdy ?_
     refine C_if rfl hF (fun hb26 hF => ?_) fun hb26 hF => ?_
     ·refine Zqdo ?_
      replace hF := hG16 _ (F_some hF)
      refine rr ?_
      exact ⟨_, _, (.refl _), hy ok, _, F_some hF, rfl, g9, zg9, oy ok, rfl⟩
     ·refine Zqc2 ?_
      refine Zqcj ?_
      refine cl (okT (fun _ hF => F_scan_scanner_name_w (p0 := (⟨a4, x19⟩ : T_scan_scanner)) (q0 := q0) h ((i1, .cells [.str a13, .str a14]) :: (q1, .cells [.int .i64 a6, .int .i64 a7, .str a8, mslO 2 g9 a10, .str a11, .int .i64 a12]) :: mo g9 c_T_scan_Pair a10 :: O) hq0 ok hF) hF fun x27 _ _ _ hq hF => ?_)
      obtain ⟨rfl, ok, rfl⟩ := hq
      refine Zqcw ?_
      refine Zqbw ?_
      refine S_st (j := 1) (cs' := [.str x27.1.1, .str a14]) ok rfl rfl rfl hi1 rfl ty_sz_9 rfl rfl (fun ok => ?_)
      refine Zqgh ?_
      refine C_if rfl hF (fun hb28 hF => ?_) fun hb28 hF => ?_
      ·refine Zqec ?_
       replace hF := hG16 _ (F_some hF)
       refine rr ?_
       exact ⟨_, _, (.refl _), hy ok, _, F_some hF, rfl, g9, zg9, oy ok, rfl⟩
      ·refine Zqc2 ?_
       refine Zqcj ?_
       refine cl (okT (fun _ hF => F_scan_scanner_equals_w (p0 := x27.2) (q0 := q0) h ((i1, .cells [.str x27.1.1, .str a14]) :: (q1, .cells [.int .i64 a6, .int .i64 a7, .str a8, mslO 2 g9 a10, .str a11, .int .i64 a12]) :: mo g9 c_T_scan_Pair a10 :: O) hq0 ok hF) hF fun x29 _ _ _ hq hF => ?_)
       obtain ⟨rfl, ok, rfl⟩ := hq
       refine Zqgh ?_
       refine C_if rfl hF (fun hb30 hF => ?_) fun hb30 hF => ?_
       ·refine Zqec ?_
        replace hF := hG16 _ (F_some hF)
        refine rr ?_
        exact ⟨_, _, (.refl _), hy ok, _, F_some hF, rfl, g9, zg9, oy ok, rfl⟩
       ·refine Zqc2 ?_
        refine Zqcj ?_
        refine cl (okT (fun _ hF => F_scan_scanner_quoted_w (p0 := x29.2) (q0 := q0) h ((i1, .cells [.str x27.1.1, .str a14]) :: (q1, .cells [.int .i64 a6, .int .i64 a7, .str a8, mslO 2 g9 a10, .str a11, .int .i64 a12]) :: mo g9 c_T_scan_Pair a10 :: O) hq0 ok hF) hF fun x31 _ _ _ hq hF => ?_)
        obtain ⟨rfl, ok, rfl⟩ := hq
        refine Zqcw ?_
        refine Zqbb ?_
        refine Zqgh ?_
        refine C_if rfl hF (fun hb32 hF => ?_) fun hb32 hF => ?_
        ·refine Zqec ?_
         replace hF := hG16 _ (F_some hF)
         refine rr ?_
         exact ⟨_, _, (.refl _), hy ok, _, F_some hF, rfl, g9, zg9, oy ok, rfl⟩
        ·refine Zqc2 ?_
         refine Zqcu ?_
         refine cl (ok_of (fun _ h hF => F_refer_ReadValue_w _ h hF) _ hF fun x33 _ hF => ?_)
         refine Zqdt ?_
         refine S_faP rfl ty_fd_44_1 ty_sz_9 ?_
         refine S_st (j := 1) (cs' := [.str x27.1.1, .str x33.1]) ok rfl rfl rfl hi1 rfl ty_sz_9 rfl rfl (fun ok => ?_)
         refine Zqgh ?_
         refine C_if rfl hF (fun hb34 hF => ?_) fun hb34 hF => ?_
         ·refine Zqec ?_
          replace hF := hG16 _ (F_some hF)
          refine rr ?_
          exact ⟨_, _, (.refl _), hy ok, _, F_some hF, rfl, g9, zg9, oy ok, rfl⟩
         ·refine Zqal ?_
          refine C_join hF (fun (_ : Unit) s' => OK h ((q0, .cells [.sl 1 (List.map c_u8 x31.2.b) 0, .int .i64 x31.2.at_]) :: (i1, .cells [.str x27.1.1, .str x33.1]) :: (q1, .cells [.int .i64 a6, .int .i64 a7, .str a8, mslO 2 g9 a10, .str a11, .int .i64 a12]) :: mo g9 c_T_scan_Pair a10 :: O) ∧ WS s' ⟨mkSl 118 [(0, .ptr q0 0), (1, .ptr q1 0), (6, .ptr i1 0)], Hp h ((q0, .cells [.sl 1 (List.map c_u8 x31.2.b) 0, .int .i64 x31.2.at_]) :: (i1, .cells [.str x27.1.1, .str x33.1]) :: (q1, .cells [.int .i64 a6, .int .i64 a7, .str a8, mslO 2 g9 a10, .str a11, .int .i64 a12]) :: mo g9 c_T_scan_Pair a10 :: O)⟩) (fun J40 hF => ?_) ?_
          ·refine Zqew ?_
           refine Zqbs ?_
           refine Zqb0 ?_
           refine S_lenO zg9 rfl ty_sl_39 ?_
           refine Zqfc ?_
           refine C_loop (σ := Int) hF (fun (a41 : Int) s' => OK h ((q0, .cells [.sl 1 (List.map c_u8 x31.2.b) 0, .int .i64 x31.2.at_]) :: (i1, .cells [.str x27.1.1, .str x33.1]) :: (q1, .cells [.int .i64 a6, .int .i64 a7, .str a8, mslO 2 g9 a10, .str a11, .int .i64 a12]) :: mo g9 c_T_scan_Pair a10 :: O) ∧ WS s' ⟨mkSl 118 [(0, .ptr q0 0), (1, .ptr q1 0), (6, .ptr i1 0), (96, mslO 2 g9 a10), (97, .int .i64 (a10.length : Int)), (98, .int .i64 a41)], Hp h ((q0, .cells [.sl 1 (List.map c_u8 x31.2.b) 0, .int .i64 x31.2.at_]) :: (i1, .cells [.str x27.1.1, .str x33.1]) :: (q1, .cells [.int .i64 a6, .int .i64 a7, .str a8, mslO 2 g9 a10, .str a11, .int .i64 a12]) :: mo g9 c_T_scan_Pair a10 :: O)⟩) ?_ ?_
           ·exact ⟨oy ok, wy ok⟩
           ·rintro G42 hG43 rec44 a41 s' ih45 hF ⟨ok, hws⟩
            refine WP_ws hws ?_
            clear hws s'
            rw [F_scan_scanner_tag_l1] at hF
            refine Zqfe ?_
            refine C_if rfl hF (fun hb46 hF => ?_) fun hb46 hF => ?_
            ·refine Zqem ?_
             refine Zqab ?_
             refine C_reg (mdl [(11, 1)]) ?_
             refine S_ixO zg9 rfl rfl ty_sl_39 ty_sz_44 hF (fun x47 hx47 hF => ?_)
             refine S_ldO (q := 2) (j := 3) (f0 := 0) ok rfl zg9 rfl rfl (fun _ => rfl) hx47 rfl rfl (p_agg (vs := c_T_scan_Pair x47) ty_ag_44 ty_sz_44 rfl rfl) ?_
             refine S_all1 ok rfl ty_zc_44 ?_
             intro i48 hi48 ok
             refine S_st (j := 0) (cs' := [.str x47.Name, .str x47.Value]) ok rfl rfl rfl hi48 rfl ty_sz_44 rfl rfl (fun ok => ?_)
             refine Zqaa ?_
             refine Zqb1 ?_
             refine Zqbw ?_
             refine Zqbx ?_
             refine Zqbw ?_
             refine S_ldP (j := 2) ok rfl rfl rfl (by assumption) (p_one (v := .str _) ty_ag_9 ty_sz_9 rfl) ?_
             refine Zqfx ?_
             refine C_if rfl hF (fun hb49 hF => ?_) fun hb49 hF => ?_
             ·refine Zqdo ?_
              replace hF := hG43 _ (F_some hF)
              replace hF := hG16 _ (F_some hF)
              refine rr ?_
              exact ⟨_, _, (.refl _), hy ok, _, F_some hF, rfl, g9, zg9, oy ok, rfl⟩
             ·refine Zqal ?_
              refine Zqfg ?_
              refine ih45 (IntKind.wrap .i64 (a41 + (1 : Int))) _ hF ?_
              exact ⟨oy ok, wy ok⟩
            ·refine Zqcs ?_
             replace hF := hG43 _ (F_some hF)
             exact ⟨(), hF, oy ok, wy ok⟩
          ·rintro ⟨⟩ s' hF ⟨ok, hws⟩
           refine WP_ws hws ?_
           clear hws s'
           refine Zqab ?_
           refine C_drw (mdl [(115, 1)]) (by kernel_rfl) (by kernel_rfl) ?_
           refine Zqaq ?_
           refine Zqep ?_
           refine Zqbs ?_
           refine Zqb0 ?_
           refine S_ldP (j := 1) ok rfl rfl rfl hi1 (p_agg (vs := c_T_scan_Pair (⟨x27.1.1, x33.1⟩ : T_scan_Pair)) ty_ag_44 ty_sz_44 rfl rfl) ?_
           refine S_lit0 (cs := [.str (⟨x27.1.1, x33.1⟩ : T_scan_Pair).Name, .str (⟨x27.1.1, x33.1⟩ : T_scan_Pair).Value]) (es := (List.map c_T_scan_Pair [(⟨x27.1.1, x33.1⟩ : T_scan_Pair)])) rfl ty_el_39 rfl (by kernel_rfl) (by kernel_rfl) ?_
           refine S_appO (j := 3) (M := [(⟨x27.1.1, x33.1⟩ : T_scan_Pair)]) ok zg9 rfl rfl src_sl (fun _ => rfl) rfl ty_el_39 ty_ni_39 hF ?_
           intro u50 zu50 ok hF
           obtain ⟨a51, ha51, hF⟩ := F_let hF
           rw [← ha51] at ok zu50
           rw [← ha51]
           refine Zqax ?_
           refine Zqbs ?_
           refine S_stB (j := 2) (cs' := [.int .i64 a6, .int .i64 a7, .str a8, mslO 2 u50 a51, .str a11, .int .i64 a12]) ok rfl rfl rfl hq1 ty_sz_39 rfl rfl (fun ok => ?_)
           refine Zqaa ?_
           refine WP_goto ?_
           repeat (first | with_reducible refine Exit.sel_goto ?_ | with_reducible refine Exit.blk_goto ?_)
           refine jmp_goto rfl ?_
           refine ih18 (x31.2.b, x31.2.at_, a6, a7, a8, a51, a11, a12, x27.1.1, x33.1) _ hF ?_
           exact ⟨u50, zu50, oy ok, wy ok⟩
theorem F_refer_ReadText_w (p0 : List UInt8) {G : (List UInt8) × Int × Int → Prop} (h : Heap) (hF : OptP (F_refer_ReadText p0) G) : CallsA Tryz.prog 55 [.sl 1 (List.map c_u8 p0) 0] h fun d h' => ∃ r, G r ∧ d = .tup [.str r.1, .int .i64 r.2.1, .int .i64 r.2.2] ∧ h' = h := by
 refine CallsA.ret ?_
 refine C_body Tryz.func55 rfl en_55 Tryz.ntmps55 rfl (fun ok => ?_)
 rw [F_refer_ReadText] at hF
 refine Zqb1 ?_
 refine S_a (v := .str ([] : List UInt8)) rfl ?_
 refine Zqcn ?_
 refine Zqcu ?_
 refine cl (ok_of (fun _ h hF => F_refer_read_w _ _ h hF) _ hF fun x1 _ hF => ?_)
 refine Zqco ?_
 refine Zqar ?_
 refine Zqaz ?_
 refine Zqcf ?_
 exact rt
theorem F_scan_scanner_text_w (p0 : T_scan_scanner) (p1 : T_scan_Token) (q0 : Nat) (q1 : Nat) (b1_3 : Nat) {G : Int × T_scan_scanner × T_scan_Token → Prop} (h : Heap) (O : List (Nat × AObj)) (hq0 : q0 ≠ 0) (hq1 : q1 ≠ 0) (zb1_3 : b1_3 = 0 → p1.Pairs = []) (ok : OK h ((q0, .cells [.sl 1 (List.map c_u8 p0.b) 0, .int .i64 p0.at_]) :: (q1, .cells [.int .i64 p1.Kind, .int .i64 p1.At, .str p1.Name, mslO 2 b1_3 p1.Pairs, .str p1.Text, .int .i64 p1.Refs]) :: mo b1_3 c_T_scan_Pair p1.Pairs :: O)) (hF : OptP (F_scan_scanner_text p0 p1) G) : CallsA Tryz.prog 31 [.ptr q0 0, .ptr q1 0] (Hp h ((q0, .cells [.sl 1 (List.map c_u8 p0.b) 0, .int .i64 p0.at_]) :: (q1, .cells [.int .i64 p1.Kind, .int .i64 p1.At, .str p1.Name, mslO 2 b1_3 p1.Pairs, .str p1.Text, .int .i64 p1.Refs]) :: mo b1_3 c_T_scan_Pair p1.Pairs :: O)) fun d h' => ∃ r, G r ∧ d = .int .i64 r.1 ∧ ∃ b1_3' : Nat, (b1_3' = 0 → r.2.2.Pairs = []) ∧ OK h ((q0, .cells [.sl 1 (List.map c_u8 r.2.1.b) 0, .int .i64 r.2.1.at_]) :: (q1, .cells [.int .i64 r.2.2.Kind, .int .i64 r.2.2.At, .str r.2.2.Name, mslO 2 b1_3' r.2.2.Pairs, .str r.2.2.Text, .int .i64 r.2.2.Refs]) :: mo b1_3' c_T_scan_Pair r.2.2.Pairs :: O) ∧ h' = Hp h ((q0, .cells [.sl 1 (List.map c_u8 r.2.1.b) 0, .int .i64 r.2.1.at_]) :: (q1, .cells [.int .i64 r.2.2.Kind, .int .i64 r.2.2.At, .str r.2.2.Name, mslO 2 b1_3' r.2.2.Pairs, .str r.2.2.Text, .int .i64 r.2.2.Refs]) :: mo b1_3' c_T_scan_Pair r.2.2.Pairs :: O) := by
 refine CallsA.ret ?_
 refine C_bodyO Tryz.func31 rfl en_31 Tryz.ntmps31 rfl ?_
 rw [F_scan_scanner_text] at hF
 refine Zqcx ?_
 refine Zqfw ?_
 refine S_st (j := 1) (cs' := [.int .i64 (5 : Int), .int .i64 p1.At, .str p1.Name, mslO 2 b1_3 p1.Pairs, .str p1.Text, .int .i64 p1.Refs]) ok rfl rfl rfl hq1 rfl ty_sz_3 rfl rfl (fun ok => ?_)
 refine Zqdi ?_
 refine C_drw (mdl []) (by kernel_rfl) (by kernel_rfl) ?_
 refine Zqf9 ?_
 refine S_slL rfl ty_sl_22 ty_sz_5 (bd_at rfl) bd_len hF (fun x1 _ hF => ?_)
 refine Zqd0 ?_
 refine C_join hF (fun (a5 : (List UInt8)) s' => OK h ((q0, .cells [.sl 1 (List.map c_u8 p0.b) 0, .int .i64 p0.at_]) :: (q1, .cells [.int .i64 (5 : Int), .int .i64 p1.At, .str p1.Name, mslO 2 b1_3 p1.Pairs, .str p1.Text, .int .i64 p1.Refs]) :: mo b1_3 c_T_scan_Pair p1.Pairs :: O) ∧ WS s' ⟨mkSl 56 [(0, .ptr q0 0), (1, .ptr q1 0), (5, .sl 1 (List.map c_u8 a5) 0)], Hp h ((q0, .cells [.sl 1 (List.map c_u8 p0.b) 0, .int .i64 p0.at_]) :: (q1, .cells [.int .i64 (5 : Int), .int .i64 p1.At, .str p1.Name, mslO 2 b1_3 p1.Pairs, .str p1.Text, .int .i64 p1.Refs]) :: mo b1_3 c_T_scan_Pair p1.Pairs :: O)⟩) (fun J6 hF => ?_) ?_
 ·refine Zqcu ?_
  refine cl (L_bIndexByte_ok _ hF fun x7 _ hF => ?_)
  refine Zqe6 ?_
  refine Zqa0 ?_
  refine Zqaa ?_
  refine C_if rfl hF (fun hb8 hF => ?_) fun hb8 hF => ?_
  ·refine Zqac ?_
   refine Zqgi ?_
   refine S_slL rfl ty_sl_22 ty_sz_5 bd_no (bd_at rfl) hF (fun x9 _ hF => ?_)
   refine Zqd0 ?_
   exact ⟨x9, hF, oy ok, wy ok⟩
  ·refine Zqal ?_
   exact ⟨x1, hF, oy ok, wy ok⟩
 ·rintro a5 s' hF ⟨ok, hws⟩
  refine WP_ws hws ?_
  clear hws s'
  refine Zqcu ?_
  refine cl (ok_of (fun _ h hF => F_refer_ReadText_w _ h hF) _ hF fun x10 _ hF => ?_)
  refine Zqey ?_
  refine Zqfr ?_
  refine C_reg (mdl [(39, 5), (40, 5)]) ?_
  refine Zqaq ?_
  refine Zqaq ?_
  refine Zqak ?_
  refine Zqas ?_
  refine S_lit5 (cs := [.int .u8 38]) ok rfl ty_el_22 rfl (by kernel_rfl) ?_
  intro i11 hi11 ok
  refine S_cvt (v := .sl 1 (List.map c_u8 ([38] : List UInt8)) 0) (by kernel_rfl) 0 ok rfl rfl hi11 rfl ty_sl_22 ty_ki_5 rfl rfl (fun ok => ?_)
  refine cl (L_bCount_ok _ hF fun x13 _ hF => ?_)
  refine Zqax ?_
  refine S_faP rfl ty_fd_41_4 ty_sz_9 ?_
  refine S_st (j := 2) (cs' := [.int .i64 (5 : Int), .int .i64 p1.At, .str p1.Name, mslO 2 b1_3 p1.Pairs, .str x10.1, .int .i64 p1.Refs]) ok rfl rfl rfl hq1 rfl ty_sz_9 rfl rfl (fun ok => ?_)
  refine Zqax ?_
  refine S_faP rfl ty_fd_41_5 ty_sz_3 ?_
  refine S_st (j := 2) (cs' := [.int .i64 (5 : Int), .int .i64 p1.At, .str p1.Name, mslO 2 b1_3 p1.Pairs, .str x10.1, .int .i64 x13]) ok rfl rfl rfl hq1 rfl ty_sz_3 rfl rfl (fun ok => ?_)
  refine Zqdx ?_
  refine Zqcq ?_
  refine Zqbv ?_
  refine Zqdw ?_
  refine Zqge ?_
  refine S_st (j := 1) (cs' := [.sl 1 (List.map c_u8 p0.b) 0, .int .i64 (IntKind.wrap .i64 (p0.at_ + (a5.length : Int)))]) ok rfl rfl rfl hq0 rfl ty_sz_3 rfl rfl (fun ok => ?_)
  refine Zqaa ?_
  refine Zqec ?_
  refine rr ?_
  exact ⟨_, _, (.refl _), hy ok, _, F_some hF, rfl, b1_3, zb1_3, oy ok, rfl⟩
theorem F_scan_scanner_token_w (p0 : T_scan_scanner) (p1 : T_scan_Token) (q0 : Nat) (q1 : Nat) (b1_3 : Nat) {G : Int × T_scan_scanner × T_scan_Token → Prop} (h : Heap) (O : List (Nat × AObj)) (hq0 : q0 ≠ 0) (hq1 : q1 ≠ 0) (zb1_3 : b1_3 = 0 → p1.Pairs = []) (ok : OK h ((q0, .cells [.sl 1 (List.map c_u8 p0.b) 0, .int .i64 p0.at_]) :: (q1, .cells [.int .i64 p1.Kind, .int .i64 p1.At, .str p1.Name, mslO 2 b1_3 p1.Pairs, .str p1.Text, .int .i64 p1.Refs]) :: mo b1_3 c_T_scan_Pair p1.Pairs :: O)) (hF : OptP (F_scan_scanner_token p0 p1) G) : CallsA Tryz.prog 15 [.ptr q0 0, .ptr q1 0] (Hp h ((q0, .cells [.sl 1 (List.map c_u8 p0.b) 0, .int .i64 p0.at_]) :: (q1, .cells [.int .i64 p1.Kind, .int .i64 p1.At, .str p1.Name, mslO 2 b1_3 p1.Pairs, .str p1.Text, .int .i64 p1.Refs]) :: mo b1_3 c_T_scan_Pair p1.Pairs :: O)) fun d h' => ∃ r, G r ∧ d = .int .i64 r.1 ∧ ∃ b1_3' : Nat, (b1_3' = 0 → r.2.2.Pairs = []) ∧ OK h ((q0, .cells [.sl 1 (List.map c_u8 r.2.1.b) 0, .int .i64 r.2.1.at_]) :: (q1, .cells [.int .i64 r.2.2.Kind, .int .i64 r.2.2.At, .str r.2.2.Name, mslO 2 b1_3' r.2.2.Pairs, .str r.2.2.Text, .int .i64 r.2.2.Refs]) :: mo b1_3' c_T_scan_Pair r.2.2.Pairs :: O) ∧ h' = Hp h ((q0, .cells [.sl 1 (List.map c_u8 r.2.1.b) 0, .int .i64 r.2.1.at_]) :: (q1, .cells [.int .i64 r.2.2.Kind, .int .i64 r.2.2.At, .str r.2.2.Name, mslO 2 b1_3' r.2.2.Pairs, .str r.2.2.Text, .int .i64 r.2.2.Refs]) :: mo b1_3' c_T_scan_Pair r.2.2.Pairs :: O) := by
 refine CallsA.ret ?_
 refine C_bodyO Tryz.func15 rfl en_15 Tryz.ntmps15 rfl ?_
 rw [F_scan_scanner_token] at hF
 refine Zqgb ?_
 refine Zqaw ?_
 refine Zqcj ?_
 refine Zqde ?_
 refine Zqdr ?_
 refine S_twoJ 3 15 hF (fun J2 hb1 hF => ?_) (fun J2 hb1 hF => ?_) (fun v3 hF => ?_)
 ·refine Zqb2 ?_
  refine Zqga ?_
  refine cl (okT (fun _ hF => F_scan_scanner_here_w _ (p0 := p0) (q0 := q0) h ((q1, .cells [.int .i64 p1.Kind, .int .i64 p1.At, .str p1.Name, mslO 2 b1_3 p1.Pairs, .str p1.Text, .int .i64 p1.Refs]) :: mo b1_3 c_T_scan_Pair p1.Pairs :: O) hq0 ok hF) hF fun x4 _ _ _ hq hF => ?_)
  obtain ⟨rfl, ok, rfl⟩ := hq
  refine Zqci ?_
  exact tw
 ·refine Zqcv ?_
  exact tw
 ·refine Zqam ?_
  refine S_twoJ 4 20 hF (fun J6 hb5 hF => ?_) (fun J6 hb5 hF => ?_) (fun v7 hF => ?_)
  ·refine Zqb2 ?_
   refine Zqga ?_
   refine cl (okT (fun _ hF => F_scan_scanner_spaces_w _ (p0 := p0) (q0 := q0) h ((q1, .cells [.int .i64 p1.Kind, .int .i64 p1.At, .str p1.Name, mslO 2 b1_3 p1.Pairs, .str p1.Text, .int .i64 p1.Refs]) :: mo b1_3 c_T_scan_Pair p1.Pairs :: O) hq0 ok hF) hF fun x8 _ _ _ hq hF => ?_)
   obtain ⟨rfl, ok, rfl⟩ := hq
   refine Zqb4 ?_
   refine Zqbg ?_
   refine Zqci ?_
   exact tw
  ·refine Zqeq ?_
   exact tw
  ·refine Zqcb ?_
   refine C_if rfl hF (fun hb9 hF => ?_) fun hb9 hF => ?_
   ·refine Zqe1 ?_
    obtain ⟨hpe, ok⟩ := Hp_pull 2 ok rfl
    rw [hpe]; clear hpe
    obtain ⟨hpe, ok⟩ := Hp_pull 2 ok rfl
    rw [hpe]; clear hpe
    obtain ⟨hpe, ok⟩ := Hp_pull 2 ok rfl
    rw [hpe]; clear hpe
    refine cl (okT (fun _ hF => F_scan_scanner_decl_w (p0 := p0) (p1 := p1) (q0 := q0) (q1 := q1) (b1_3 := b1_3) h (O) hq0 hq1 zb1_3 ok hF) hF fun x10 _ _ _ hq hF => ?_)
    obtain ⟨rfl, u11, zu11, ok, rfl⟩ := hq
    refine Zqca ?_
    refine rr ?_
    exact ⟨_, _, (.refl _), hy ok, _, F_some hF, rfl, u11, zu11, oy ok, rfl⟩
   ·refine Zqcj ?_
    refine cl (okT (fun _ hF => F_scan_scanner_here_w _ (p0 := p0) (q0 := q0) h ((q1, .cells [.int .i64 p1.Kind, .int .i64 p1.At, .str p1.Name, mslO 2 b1_3 p1.Pairs, .str p1.Text, .int .i64 p1.Refs]) :: mo b1_3 c_T_scan_Pair p1.Pairs :: O) hq0 ok hF) hF fun x12 _ _ _ hq hF => ?_)
    obtain ⟨rfl, ok, rfl⟩ := hq
    refine Zqcb ?_
    refine C_if rfl hF (fun hb13 hF => ?_) fun hb13 hF => ?_
    ·refine Zqfw ?_
     refine S_st (j := 1) (cs' := [.int .i64 (7 : Int), .int .i64 p1.At, .str p1.Name, mslO 2 b1_3 p1.Pairs, .str p1.Text, .int .i64 p1.Refs]) ok rfl rfl rfl hq1 rfl ty_sz_3 rfl rfl (fun ok => ?_)
     refine Zqdi ?_
     refine Zqe1 ?_
     obtain ⟨hpe, ok⟩ := Hp_pull 2 ok rfl
     rw [hpe]; clear hpe
     obtain ⟨hpe, ok⟩ := Hp_pull 2 ok rfl
     rw [hpe]; clear hpe
     obtain ⟨hpe, ok⟩ := Hp_pull 2 ok rfl
     rw [hpe]; clear hpe
     refine cl (okT (fun _ hF => F_scan_scanner_upTo_w _ _ (p0 := p0) (p1 := (⟨(7 : Int), p1.At, p1.Name, p1.Pairs, p1.Text, p1.Refs⟩ : T_scan_Token)) (q0 := q0) (q1 := q1) (b1_3 := b1_3) h (O) hq0 hq1 zb1_3 ok hF) hF fun x14 _ _ _ hq hF => ?_)
     obtain ⟨rfl, u15, zu15, ok, rfl⟩ := hq
     refine Zqgh ?_
     refine C_if rfl hF (fun hb16 hF => ?_) fun hb16 hF => ?_
     ·refine Zqec ?_
      refine rr ?_
      exact ⟨_, _, (.refl _), hy ok, _, F_some hF, rfl, u15, zu15, oy ok, rfl⟩
     ·refine Zqed ?_
      refine cl (okT (fun _ hF => F_scan_scanner_sign_w _ (p0 := x14.2.1) (q0 := q0) h ((q1, .cells [.int .i64 x14.2.2.Kind, .int .i64 x14.2.2.At, .str x14.2.2.Name, mslO 2 u15 x14.2.2.Pairs, .str x14.2.2.Text, .int .i64 x14.2.2.Refs]) :: mo u15 c_T_scan_Pair x14.2.2.Pairs :: O) hq0 ok hF) hF fun x17 _ _ _ hq hF => ?_)
      obtain ⟨rfl, ok, rfl⟩ := hq
      refine Zqca ?_
      refine rr ?_
      exact ⟨_, _, (.refl _), hy ok, _, F_some hF, rfl, u15, zu15, oy ok, rfl⟩
    ·refine Zqcj ?_
     refine cl (okT (fun _ hF => F_scan_scanner_here_w _ (p0 := p0) (q0 := q0) h ((q1, .cells [.int .i64 p1.Kind, .int .i64 p1.At, .str p1.Name, mslO 2 b1_3 p1.Pairs, .str p1.Text, .int .i64 p1.Refs]) :: mo b1_3 c_T_scan_Pair p1.Pairs :: O) hq0 ok hF) hF fun x18 _ _ _ hq hF => ?_)
     obtain ⟨rfl, ok, rfl⟩ := hq
     refine Zqcb ?_
     refine C_if rfl hF (fun hb19 hF => ?_) fun hb19 hF => ?_
     ·refine Zqfw ?_
      refine S_st (j := 1) (cs' := [.int .i64 (6 : Int), .int .i64 p1.At, .str p1.Name, mslO 2 b1_3 p1.Pairs, .str p1.Text, .int .i64 p1.Refs]) ok rfl rfl rfl hq1 rfl ty_sz_3 rfl rfl (fun ok => ?_)
      refine Zqdx ?_
      refine Zqaq ?_
      obtain ⟨hpe, ok⟩ := Hp_pull 2 ok rfl
      rw [hpe]; clear hpe
      obtain ⟨hpe, ok⟩ := Hp_pull 2 ok rfl
      rw [hpe]; clear hpe
      obtain ⟨hpe, ok⟩ := Hp_pull 2 ok rfl
      rw [hpe]; clear hpe
      refine cl (okT (fun _ hF => F_scan_scanner_upTo_w _ _ (p0 := p0) (p1 := (⟨(6 : Int), p1.At, p1.Name, p1.Pairs, p1.Text, p1.Refs⟩ : T_scan_Token)) (q0 := q0) (q1 := q1) (b1_3 := b1_3) h (O) hq0 hq1 zb1_3 ok hF) hF fun x20 _ _ _ hq hF => ?_)
      obtain ⟨rfl, u21, zu21, ok, rfl⟩ := hq
      refine Zqca ?_
      refine rr ?_
      exact ⟨_, _, (.refl _), hy ok, _, F_some hF, rfl, u21, zu21, oy ok, rfl⟩
     ·refine Zqcj ?_
      refine cl (okT (fun _ hF => F_scan_scanner_here_w _ (p0 := p0) (q0 := q0) h ((q1, .cells [.int .i64 p1.Kind, .int .i64 p1.At, .str p1.Name, mslO 2 b1_3 p1.Pairs, .str p1.Text, .int .i64 p1.Refs]) :: mo b1_3 c_T_scan_Pair p1.Pairs :: O) hq0 ok hF) hF fun x22 _ _ _ hq hF => ?_)
      obtain ⟨rfl, ok, rfl⟩ := hq
      refine Zqcb ?_
      refine C_if rfl hF (fun hb23 hF => ?_) fun hb23 hF => ?_
      ·refine Zqdo ?_
       refine rr ?_
       exact ⟨_, _, (.refl _), hy ok, _, F_some hF, rfl, b1_3, zb1_3, oy ok, rfl⟩
      ·refine Zqcj ?_
       refine cl (okT (fun _ hF => F_scan_scanner_here_w _ (p0 := p0) (q0 := q0) h ((q1, .cells [.int .i64 p1.Kind, .int .i64 p1.At, .str p1.Name, mslO 2 b1_3 p1.Pairs, .str p1.Text, .int .i64 p1.Refs]) :: mo b1_3 c_T_scan_Pair p1.Pairs :: O) hq0 ok hF) hF fun x24 _ _ _ hq hF => ?_)
       obtain ⟨rfl, ok, rfl⟩ := hq
       refine Zqcb ?_
       refine C_if rfl hF (fun hb25 hF => ?_) fun hb25 hF => ?_
       ·refine Zqdo ?_
        refine rr ?_
        exact ⟨_, _, (.refl _), hy ok, _, F_some hF, rfl, b1_3, zb1_3, oy ok, rfl⟩
       ·refine Zqcj ?_
        refine cl (okT (fun _ hF => F_scan_scanner_here_w _ (p0 := p0) (q0 := q0) h ((q1, .cells [.int .i64 p1.Kind, .int .i64 p1.At, .str p1.Name, mslO 2 b1_3 p1.Pairs, .str p1.Text, .int .i64 p1.Refs]) :: mo b1_3 c_T_scan_Pair p1.Pairs :: O) hq0 ok hF) hF fun x26 _ _ _ hq hF => ?_)
        obtain ⟨rfl, ok, rfl⟩ := hq
        refine Zqcb ?_
        refine C_if rfl hF (fun hb27 hF => ?_) fun hb27 hF => ?_
        ·refine Zqe1 ?_
         obtain ⟨hpe, ok⟩ := Hp_pull 2 ok rfl
         rw [hpe]; clear hpe
         obtain ⟨hpe, ok⟩ := Hp_pull 2 ok rfl
         rw [hpe]; clear hpe
         obtain ⟨hpe, ok⟩ := Hp_pull 2 ok rfl
         rw [hpe]; clear hpe
         refine cl (okT (fun _ hF => F_scan_scanner_instr_w (p0 := p0) (p1 := p1) (q0 := q0) (q1 := q1) (b1_3 := b1_3) h (O) hq0 hq1 zb1_3 ok hF) hF fun x28 _ _ _ hq hF => ?_)
         obtain ⟨rfl, u29, zu29, ok, rfl⟩ := hq
         refine Zqca ?_
         refine rr ?_
         exact ⟨_, _, (.refl _), hy ok, _, F_some hF, rfl, u29, zu29, oy ok, rfl⟩
        ·refine Zqcj ?_
         refine cl (okT (fun _ hF => F_scan_scanner_here_w _ (p0 := p0) (q0 := q0) h ((q1, .cells [.int .i64 p1.Kind, .int .i64 p1.At, .str p1.Name, mslO 2 b1_3 p1.Pairs, .str p1.Text, .int .i64 p1.Refs]) :: mo b1_3 c_T_scan_Pair p1.Pairs :: O) hq0 ok hF) hF fun x30 _ _ _ hq hF => ?_)
         obtain ⟨rfl, ok, rfl⟩ := hq
         refine Zqcb ?_
         refine C_if rfl hF (fun hb31 hF => ?_) fun hb31 hF => ?_
         ·refine Zqe1 ?_
          obtain ⟨hpe, ok⟩ := Hp_pull 2 ok rfl
          rw [hpe]; clear hpe
          obtain ⟨hpe, ok⟩ := Hp_pull 2 ok rfl
          rw [hpe]; clear hpe
          obtain ⟨hpe, ok⟩ := Hp_pull 2 ok rfl
          rw [hpe]; clear hpe
          refine cl (okT (fun _ hF => F_scan_scanner_closing_w (p0 := p0) (p1 := p1) (q0 := q0) (q1 := q1) (b1_3 := b1_3) h (O) hq0 hq1 zb1_3 ok hF) hF fun x32 _ _ _ hq hF => ?_)
          obtain ⟨rfl, u33, zu33, ok, rfl⟩ := hq
          refine Zqca ?_
          refine rr ?_
          exact ⟨_, _, (.refl _), hy ok, _, F_some hF, rfl, u33, zu33, oy ok, rfl⟩
         ·refine Zqcj ?_
          refine cl (okT (fun _ hF => F_scan_scanner_here_w _ (p0 := p0) (q0 := q0) h ((q1, .cells [.int .i64 p1.Kind, .int .i64 p1.At, .str p1.Name, mslO 2 b1_3 p1.Pairs, .str p1.Text, .int .i64 p1.Refs]) :: mo b1_3 c_T_scan_Pair p1.Pairs :: O) hq0 ok hF) hF fun x34 _ _ _ hq hF => ?_)
          obtain ⟨rfl, ok, rfl⟩ := hq
          refine Zqcb ?_
          refine C_if rfl hF (fun hb35 hF => ?_) fun hb35 hF => ?_
          ·refine Zqe1 ?_
           obtain ⟨hpe, ok⟩ := Hp_pull 2 ok rfl
           rw [hpe]; clear hpe
           obtain ⟨hpe, ok⟩ := Hp_pull 2 ok rfl
           rw [hpe]; clear hpe
           obtain ⟨hpe, ok⟩ := Hp_pull 2 ok rfl
           rw [hpe]; clear hpe
           refine cl (okT (fun _ hF => F_scan_scanner_tag_w (p0 := p0) (p1 := p1) (q0 := q0) (q1 := q1) (b1_3 := b1_3) h (O) hq0 hq1 zb1_3 ok hF) hF fun x36 _ _ _ hq hF => ?_)
           obtain ⟨rfl, u37, zu37, ok, rfl⟩ := hq
           refine Zqca ?_
           refine rr ?_
           exact ⟨_, _, (.refl _), hy ok, _, F_some hF, rfl, u37, zu37, oy ok, rfl⟩
          ·refine Zqed ?_
           refine Zqaq ?_
           obtain ⟨hpe, ok⟩ := Hp_pull 2 ok rfl
           rw [hpe]; clear hpe
           obtain ⟨hpe, ok⟩ := Hp_pull 2 ok rfl
           rw [hpe]; clear hpe
           obtain ⟨hpe, ok⟩ := Hp_pull 2 ok rfl
           rw [hpe]; clear hpe
           refine cl (okT (fun _ hF => F_scan_scanner_text_w (p0 := p0) (p1 := p1) (q0 := q0) (q1 := q1) (b1_3 := b1_3) h (O) hq0 hq1 zb1_3 ok hF) hF fun x38 _ _ _ hq hF => ?_)
           obtain ⟨rfl, u39, zu39, ok, rfl⟩ := hq
           refine Zqca ?_
           refine rr ?_
           exact ⟨_, _, (.refl _), hy ok, _, F_some hF, rfl, u39, zu39, oy ok, rfl⟩
theorem F_scan_All_w (p0 : List UInt8) {G : (List T_scan_Token) × Int × Int → Prop} (h : Heap) (hF : OptP (F_scan_All p0) G) : CallsA Tryz.prog 7 [.sl 1 (List.map c_u8 p0) 0] h fun d h' => ∃ r, G r ∧ d = .tup [.sl 6 (List.map c_T_scan_Token r.1) 0, .int .i64 r.2.1, .int .i64 r.2.2] ∧ h' = h := by
 refine CallsA.ret ?_
 refine C_body Tryz.func7 rfl en_7 Tryz.ntmps7 rfl (fun ok => ?_)
 rw [F_scan_All] at hF
 refine Zqb1 ?_
 refine S_a (v := .snil) rfl ?_
 refine S_one 2 (v := .sl 6 (List.map c_T_scan_Token ([] : List T_scan_Token)) 0) (.nil _) ?_
 refine Zqcn ?_
 refine WP_scope ?_
 refine JW_step ?_
 refine Zqab ?_
 refine Zqf2 ?_
 refine Zqbg ?_
 refine Zqaa ?_
 refine C_if rfl hF (fun hb1 hF => ?_) fun hb1 hF => ?_
 ·refine Zqb1 ?_
  refine S_a (v := .snil) rfl ?_
  refine S_one 2 (v := .sl 6 (List.map c_T_scan_Token ([] : List T_scan_Token)) 0) (.nil _) ?_
  refine Zqcf ?_
  exact rt
 ·refine Zqc2 ?_
  refine C_reg (mdl [(18, 1)]) ?_
  refine Zqas ?_
  refine cl (ok_of (fun _ h hF => F_scan_Plain_w _ h hF) _ hF fun x2 _ hF => ?_)
  refine S_bld (v := .agg (c_T_scan_scanner (⟨x2, (0 : Int)⟩ : T_scan_scanner))) (b_st ty_zc_47 ty_pl_47 rfl) ?_
  refine S_box1 (cs := [.sl 1 (List.map c_u8 (⟨x2, (0 : Int)⟩ : T_scan_scanner).b) 0, .int .i64 (⟨x2, (0 : Int)⟩ : T_scan_scanner).at_]) ok rfl rfl rfl rfl ?_
  intro i3 hi3 ok
  refine S_a (v := .ptr _ _) rfl ?_
  refine Zqdi ?_
  refine Zqew ?_
  refine Zqet ?_
  refine cl (ok_of (fun _ h hF => F_char_Fault_w _ h hF) _ hF fun x4 _ hF => ?_)
  refine Zqcw ?_
  refine Zqcn ?_
  refine Zqb7 ?_
  refine Zqdd ?_
  refine C_if rfl hF (fun hb5 hF => ?_) fun hb5 hF => ?_
  ·refine Zqd5 ?_
   refine S_a (v := .snil) rfl ?_
   refine S_one 2 (v := .sl 6 (List.map c_T_scan_Token ([] : List T_scan_Token)) 0) (.nil _) ?_
   refine Zqcf ?_
   exact rt
  ·refine Zqal ?_
   refine Zqb1 ?_
   refine S_a (v := .snil) rfl ?_
   refine S_nilB c_T_scan_Token ok (fun ok => ?_)
   refine Zqaa ?_
   refine Zqgb ?_
   refine WP_label ?_
   refine C_gloop (σ := (List UInt8) × Int × (List T_scan_Token)) hF (fun (v : (List UInt8) × Int × (List T_scan_Token)) s' => match v with | (a7, a8, a10) => ∃ g9 : Nat, (g9 = 0 → a10 = []) ∧ OK h [mo g9 c_T_scan_Token a10, (i3, .cells [.sl 1 (List.map c_u8 a7) 0, .int .i64 a8])] ∧ WS s' ⟨mkSl 58 [(5, .ptr i3 0), (8, mslO 6 g9 a10)], Hp h [mo g9 c_T_scan_Token a10, (i3, .cells [.sl 1 (List.map c_u8 a7) 0, .int .i64 a8])]⟩) ?_ ?_
   ·exact ⟨0, (fun _ => rfl), oy ok, wy ok⟩
   ·rintro G11 hG12 rec13 ⟨a7, a8, a10⟩ s' ih14 hF ⟨g9, zg9, ok, hws⟩
    refine WP_ws hws ?_
    clear hws s'
    rw [F_scan_All_l0] at hF
    refine Zqab ?_
    refine Zqab ?_
    refine C_drw (mdl []) (by kernel_rfl) (by kernel_rfl) ?_
    refine Zqaq ?_
    refine Zqcq ?_
    refine Zqbv ?_
    refine Zqep ?_
    refine Zqbh ?_
    refine S_ldP (j := 1) ok rfl rfl rfl (by assumption) (p_one (v := .sl _ _ _) ty_ag_22 ty_sz_22 rfl) ?_
    refine Zqa7 ?_
    refine Zqdy ?_
    refine C_if rfl hF (fun hb15 hF => ?_) fun hb15 hF => ?_
    ·refine Zqb1 ?_
     refine Zqbj ?_
     refine Zqbr ?_
     refine S_frzO 0 2 ok zg9 rfl rfl (fun _ => rfl) (fun ok => ?_)
     refine Zqcf ?_
     replace hF := hG12 _ (F_some hF)
     exact rt
    ·refine Zqed ?_
     refine Zqcq ?_
     refine Zqbv ?_
     refine Zqeu ?_
     refine C_reg (mdl [(11, 1)]) ?_
     refine Zqah ?_
     refine S_bld (v := .agg [.int .i64 (0 : Int), .int .i64 a8, .str ([] : List UInt8), .snil, .str ([] : List UInt8), .int .i64 (0 : Int)]) (b_st ty_zc_41 ty_pl_41 rfl) ?_
     refine S_all1 ok rfl ty_zc_41 ?_
     intro i17 hi17 ok
     refine S_nilB c_T_scan_Pair ok (fun ok => ?_)
     refine S_st (j := 1) (cs' := [.int .i64 (0 : Int), .int .i64 a8, .str ([] : List UInt8), .snil, .str ([] : List UInt8), .int .i64 (0 : Int)]) ok rfl rfl rfl hi17 rfl ty_sz_41 rfl rfl (fun ok => ?_)
     refine S_nilB c_T_scan_Pair ok (fun ok => ?_)
     refine Zqdx ?_
     obtain ⟨hpe, ok⟩ := Hp_pull 2 ok rfl
     rw [hpe]; clear hpe
     obtain ⟨hpe, ok⟩ := Hp_pull 4 ok rfl
     rw [hpe]; clear hpe
     refine cl (okT (fun _ hF => F_scan_scanner_token_w (p0 := (⟨a7, a8⟩ : T_scan_scanner)) (p1 := (⟨(0 : Int), a8, ([] : List UInt8), ([] : List T_scan_Pair), ([] : List UInt8), (0 : Int)⟩ : T_scan_Token)) (q0 := i3) (q1 := i17) (b1_3 := 0) h [mo 0 c_T_scan_Pair ([] : List T_scan_Pair), mo g9 c_T_scan_Token a10] hi3 hi17 (fun _ => rfl) ok hF) hF fun x20 _ _ _ hq hF => ?_)
     obtain ⟨rfl, u21, zu21, ok, rfl⟩ := hq
     refine Zqdu ?_
     refine Zqdd ?_
     refine C_if rfl hF (fun hb22 hF => ?_) fun hb22 hF => ?_
     ·refine Zqd5 ?_
      refine S_a (v := .snil) rfl ?_
      refine S_one 2 (v := .sl 6 (List.map c_T_scan_Token ([] : List T_scan_Token)) 0) (.nil _) ?_
      refine Zqcf ?_
      replace hF := hG12 _ (F_some hF)
      exact rt
     ·refine Zqc2 ?_
      refine C_reg (mdl [(57, 1)]) ?_
      refine S_frzF (c := c_T_scan_Pair) (e := x20.2.2.Pairs) (cs' := [.int .i64 x20.2.2.Kind, .int .i64 x20.2.2.At, .str x20.2.2.Name, .sl 2 (List.map c_T_scan_Pair x20.2.2.Pairs) 0, .str x20.2.2.Text, .int .i64 x20.2.2.Refs]) 1 2 3 ok zu21 rfl hi17 rfl (by decide) (fun _ => rfl) rfl rfl (fun ok => ?_)
      refine S_frzP 1 11 ok rfl rfl hi17 (fun ok => ?_)
      refine Zqbj ?_
      refine S_ldQ rfl (p_agg (vs := c_T_scan_Token x20.2.2) ty_ag_41 ty_sz_41 rfl rfl) ?_
      refine S_lit0 (cs := [.int .i64 x20.2.2.Kind, .int .i64 x20.2.2.At, .str x20.2.2.Name, .sl 2 (List.map c_T_scan_Pair x20.2.2.Pairs) 0, .str x20.2.2.Text, .int .i64 x20.2.2.Refs]) (es := (List.map c_T_scan_Token [x20.2.2])) rfl ty_el_25 rfl (by kernel_rfl) (by kernel_rfl) ?_
      refine S_appO (j := 4) (M := [x20.2.2]) ok zg9 rfl rfl src_sl (fun _ => rfl) rfl ty_el_25 ty_ni_25 hF ?_
      intro u26 zu26 ok hF
      obtain ⟨a27, ha27, hF⟩ := F_let hF
      rw [← ha27] at ok zu26
      rw [← ha27]
      refine Zqbr ?_
      refine Zqaa ?_
      refine WP_goto ?_
      repeat (first | with_reducible refine Exit.sel_goto ?_ | with_reducible refine Exit.blk_goto ?_)
      refine jmp_goto rfl ?_
      refine ih14 (x20.2.1.b, x20.2.1.at_, a27) _ hF ?_
      obtain ⟨hpe, ok⟩ := Hp_pull 4 ok rfl
      rw [hpe]; clear hpe
      exact ⟨u26, zu26, oy ok, wy ok⟩
theorem F_lecternlaw03_awake_w {G : Bool → Prop} (h : Heap) (hF : OptP (F_lecternlaw03_awake) G) : CallsA Tryz.prog 5 [] h fun d h' => ∃ r, G r ∧ d = .bool r ∧ h' = h := by
 refine CallsA.ret ?_
 refine C_body Tryz.func5 rfl en_5 Tryz.ntmps5 rfl (fun ok => ?_)
 rw [F_lecternlaw03_awake] at hF
 refine Zqdb ?_
 refine Zqab ?_
 refine C_reg (mdl [(8, 5), (9, 5)]) ?_
 refine S_lit5 (cs := [.int .u8 60, .int .u8 97, .int .u8 62, .int .u8 120, .int .u8 38, .int .u8 97, .int .u8 109, .int .u8 112, .int .u8 59, .int .u8 121, .int .u8 60, .int .u8 47, .int .u8 97, .int .u8 62]) ok rfl ty_el_22 rfl (by kernel_rfl) ?_
 intro i1 hi1 ok
 refine S_cvt (v := .sl 1 (List.map c_u8 ([60, 97, 62, 120, 38, 97, 109, 112, 59, 121, 60, 47, 97, 62] : List UInt8)) 0) (by kernel_rfl) 0 ok rfl rfl hi1 rfl ty_sl_22 ty_ki_5 rfl rfl (fun ok => ?_)
 refine cl (ok_of (fun _ h hF => F_scan_All_w _ h hF) _ hF fun x3 _ hF => ?_)
 refine Zqdt ?_
 refine Zqbb ?_
 refine Zqfr ?_
 refine C_reg (mdl [(15, 5), (16, 5)]) ?_
 refine S_lit5 (cs := [.int .u8 60, .int .u8 97, .int .u8 32, .int .u8 98, .int .u8 61, .int .u8 39, .int .u8 49, .int .u8 39, .int .u8 32, .int .u8 98, .int .u8 61, .int .u8 39, .int .u8 50, .int .u8 39, .int .u8 62]) ok rfl ty_el_22 rfl (by kernel_rfl) ?_
 intro i4 hi4 ok
 refine S_cvt (v := .sl 1 (List.map c_u8 ([60, 97, 32, 98, 61, 39, 49, 39, 32, 98, 61, 39, 50, 39, 62] : List UInt8)) 0) (by kernel_rfl) 0 ok rfl rfl hi4 rfl ty_sl_22 ty_ki_5 rfl rfl (fun ok => ?_)
 refine cl (ok_of (fun _ h hF => F_scan_All_w _ h hF) _ hF fun x6 _ hF => ?_)
 refine Zqdt ?_
 refine Zqbb ?_
 refine Zqcn ?_
 refine Zqb7 ?_
 refine Zqdr ?_
 refine S_two (b := (x3.2.2 == (0 : Int))) 3 26 (.bool ((x3.2.2 == (0 : Int)) && (x6.2.2 == (27 : Int)))) (fun hb7 => ?_) (fun hb7 => ?_) ?_
 ·refine Zqda ?_
  refine Zqci ?_
  exact th
 ·refine Zqcv ?_
  exact th
 refine Zqam ?_
 refine S_two (b := ((x3.2.2 == (0 : Int)) && (x6.2.2 == (27 : Int)))) 4 31 (.bool (((x3.2.2 == (0 : Int)) && (x6.2.2 == (27 : Int))) && ((x3.1.length : Int) == (3 : Int)))) (fun hb8 => ?_) (fun hb8 => ?_) ?_
 ·refine Zqdh ?_
  refine S_lenL rfl ty_sl_25 ?_
  refine Zqel ?_
  exact th
 ·refine Zqeq ?_
  exact th
 refine Zqam ?_
 refine S_twoJ 6 38 hF (fun J10 hb9 hF => ?_) (fun J10 hb9 hF => ?_) (fun v11 hF => ?_)
 ·refine Zqdh ?_
  refine S_ix rfl rfl ty_sl_25 ty_sz_41 hF (fun x12 _ hF => ?_)
  refine Zqb4 ?_
  refine S_faQ rfl ty_fd_41_4 ty_sz_9 rfl ?_
  refine Zqb4 ?_
  refine Zqbn ?_
  refine Zqb4 ?_
  refine Zqgf ?_
  exact tw
 ·refine Zqeh ?_
  exact tw
 ·refine Zqam ?_
  refine S_twoJ 6 45 hF (fun J14 hb13 hF => ?_) (fun J14 hb13 hF => ?_) (fun v15 hF => ?_)
  ·refine Zqdh ?_
   refine S_ix rfl rfl ty_sl_25 ty_sz_41 hF (fun x16 _ hF => ?_)
   refine Zqb4 ?_
   refine S_faQ rfl ty_fd_41_5 ty_sz_3 rfl ?_
   refine Zqb4 ?_
   refine Zqbl ?_
   refine Zqel ?_
   exact tw
  ·refine Zqeh ?_
   exact tw
  ·refine Zqam ?_
   refine S_twoJ 6 52 hF (fun J18 hb17 hF => ?_) (fun J18 hb17 hF => ?_) (fun v19 hF => ?_)
   ·refine Zqdh ?_
    refine S_ix rfl rfl ty_sl_25 ty_sz_41 hF (fun x20 _ hF => ?_)
    refine Zqb4 ?_
    refine S_faQ rfl ty_fd_41_0 ty_sz_3 rfl ?_
    refine Zqb4 ?_
    refine Zqbl ?_
    refine Zqel ?_
    exact tw
   ·refine Zqeh ?_
    exact tw
   ·refine Zqam ?_
    refine S_twoJ 6 59 hF (fun J22 hb21 hF => ?_) (fun J22 hb21 hF => ?_) (fun v23 hF => ?_)
    ·refine Zqdh ?_
     refine S_ix rfl rfl ty_sl_25 ty_sz_41 hF (fun x24 _ hF => ?_)
     refine Zqb4 ?_
     refine S_faQ rfl ty_fd_41_1 ty_sz_3 rfl ?_
     refine Zqb4 ?_
     refine Zqbl ?_
     refine Zqel ?_
     exact tw
    ·refine Zqeh ?_
     exact tw
    ·refine Zqcl ?_
     exact rt
theorem F_lecternref01_Spare_w (p0 : List UInt8) {G : List UInt8 × List UInt8 → Prop} (h : Heap) (hF : OptP (F_lecternref01_Spare p0) G) : CallsA Tryz.prog 6 [.sl 1 (List.map c_u8 p0) 0] h fun d h' => ∃ r, G r ∧ d = .slx 1 (List.map c_u8 r.1) (List.map c_u8 r.2) ∧ h' = h := by
 refine CallsA.ret ?_
 refine C_body Tryz.func6 rfl en_6 Tryz.ntmps6 rfl (fun ok => ?_)
 rw [F_lecternref01_Spare] at hF
 refine Zqb1 ?_
 refine S_a (v := .snil) rfl ?_
 refine S_one 2 (v := .sl 1 (List.map c_u8 ([] : List UInt8)) 0) (.nil _) ?_
 refine Zqdi ?_
 refine C_reg (mdl [(6, 1), (8, 1), (10, 1)]) ?_
 refine Zqdw ?_
 refine Zqat ?_
 refine S_mk1O (c := c_u8) (z0 := (0 : UInt8)) ok rfl ty_el_22 rfl rfl rfl hF ?_
 intro u1 zu1 ok hF
 obtain ⟨a2, ha2, hF⟩ := F_let hF
 rw [← ha2] at ok zu1
 rw [← ha2]
 refine Zqas ?_
 refine S_appO (j := 0) (M := p0) ok zu1 rfl rfl src_sl (fun _ => rfl) rfl ty_el_22 ty_ni_22 hF ?_
 intro u3 zu3 ok hF
 obtain ⟨a4, ha4, hF⟩ := F_let hF
 rw [← ha4] at ok zu3
 rw [← ha4]
 obtain ⟨b5, hb5, hF⟩ := F_bind hF
 replace hb5 := u8_spec hb5
 refine S_lit0 (es := List.map c_u8 [b5]) rfl ty_el_22 rfl rfl (by simp only [List.map_cons, List.map_nil, c_u8, hb5]; rfl) ?_
 refine S_appO (j := 0) (M := [b5]) ok zu3 rfl rfl src_sl (fun _ => rfl) rfl ty_el_22 ty_ni_22 hF ?_
 intro u6 zu6 ok hF
 obtain ⟨a7, ha7, hF⟩ := F_let hF
 rw [← ha7] at ok zu6
 rw [← ha7]
 refine Zqdw ?_
 refine S_frzO 0 10 ok zu6 rfl rfl (fun _ => rfl) (fun ok => ?_)
 obtain ⟨x10, hx10, hF⟩ := F_bind hF
 refine S_toX 10 (e := a7) rfl (idx_ne hx10) ?_
 refine S_slX (e := a7) (sp := []) rfl ty_sl_22 ty_sz_5 rfl hF (fun x8 _ hF => ?_)
 refine S_a (v := .slx _ _ _) rfl ?_
 refine Zqaa ?_
 refine Zqaj ?_
 repeat (first | with_reducible refine Exit.sel_ret ?_ | with_reducible refine Exit.blk_ret ?_ | with_reducible refine Exit.jmp_ret ?_)
 refine C_ret (fn := Tryz.f6) rfl (.tmp (v := .slx 1 (List.map c_u8 x8) (List.map c_u8 (List.drop (Int.toNat (p0.length : Int)) (a7 ++ [])))) rfl .nil) ?_
 exact ⟨_, _, (.refl _), ok.wh, _, F_some hF, rfl, rfl⟩
theorem F_lecternref01_Spare_ok {β : Type} {f : List UInt8 × List UInt8 → Option β} {G : β → Prop} {R : D → Heap → Prop} {p0 : List UInt8} (h : Heap) (hF : OptP ((F_lecternref01_Spare p0).bind f) G) (hk : ∀ r, F_lecternref01_Spare p0 = some r → OptP (f r) G → R (.slx 1 (List.map c_u8 r.1) (List.map c_u8 r.2)) h) : CallsA Tryz.prog 6 [.sl 1 (List.map c_u8 p0) 0] h R := by
 obtain ⟨r0, hr, hF⟩ := F_bind hF
 refine (F_lecternref01_Spare_w (G := fun r => r = r0) p0 h ⟨r0, hr, rfl⟩).mono ?_
 rintro _ _ ⟨r, rfl, rfl, rfl⟩
 exact hk _ hr hF
theorem F_lecternref01_Lines_w (p0 : List UInt8) {G : (List UInt8) → Prop} (h : Heap) (hF : OptP (F_lecternref01_Lines p0) G) : CallsA Tryz.prog 20 [.sl 1 (List.map c_u8 p0) 0] h fun d h' => ∃ r, G r ∧ d = .sl 1 (List.map c_u8 r) 0 ∧ h' = h := by
 refine CallsA.ret ?_
 refine C_body Tryz.func20 rfl en_20 Tryz.ntmps20 rfl (fun ok => ?_)
 rw [F_lecternref01_Lines] at hF
 refine Zqb1 ?_
 refine S_a (v := .snil) rfl ?_
 refine S_one 2 (v := .sl 1 (List.map c_u8 ([] : List UInt8)) 0) (.nil _) ?_
 refine Zqdi ?_
 refine C_reg (mdl [(5, 2)]) ?_
 refine S_lit2 (es := List.map c_u8 []) ok rfl ty_el_22 rfl rfl (by simp only [List.map_cons, List.map_nil, c_u8, ]; rfl) ?_
 intro r1 hr1 ok
 refine Zqd0 ?_
 refine C_join hF (fun (a36 : (List UInt8)) s' => ∃ g37 : Nat, g37 ≠ 0 ∧ OK h [(g37, .room)] ∧ WS s' ⟨mkSl 45 [(3, .sl 1 (List.map c_u8 a36) g37)], Hp h [(g37, .room)]⟩) (fun J38 hF => ?_) ?_
 ·refine Zqd9 ?_
  refine C_loop (σ := (List UInt8) × Int) hF (fun (v : (List UInt8) × Int) s' => match v with | (a39, a41) => ∃ g40 : Nat, g40 ≠ 0 ∧ OK h [(g40, .room)] ∧ WS s' ⟨mkSl 45 [(0, .sl 1 (List.map c_u8 p0) 0), (3, .sl 1 (List.map c_u8 a39) g40), (4, .int .i64 a41)], Hp h [(g40, .room)]⟩) ?_ ?_
  ·exact ⟨r1, hr1, oy ok, wy ok⟩
  ·rintro G42 hG43 rec44 ⟨a39, a41⟩ s' ih45 hF ⟨g40, hg40, ok, hws⟩
   refine WP_ws hws ?_
   clear hws s'
   rw [F_lecternref01_Lines_l0] at hF
   refine Zqf8 ?_
   refine C_if rfl hF (fun hb46 hF => ?_) fun hb46 hF => ?_
   ·refine Zqal ?_
    refine C_join hF (fun (a61 : (List UInt8)) s' => ∃ g62 : Nat, g62 ≠ 0 ∧ OK h [(g62, .room)] ∧ WS s' ⟨mkSl 45 [(0, .sl 1 (List.map c_u8 p0) 0), (3, .sl 1 (List.map c_u8 a61) g62), (4, .int .i64 a41)], Hp h [(g62, .room)]⟩) (fun J63 hF => ?_) ?_
    ·refine Zqaw ?_
     refine Zqd8 ?_
     refine S_ix rfl rfl ty_sl_22 ty_sz_5 hF (fun x64 _ hF => ?_)
     refine Zqbc ?_
     refine Zqdy ?_
     refine C_if rfl hF (fun hb65 hF => ?_) fun hb65 hF => ?_
     ·refine C_reg (mdl [(19, 2)]) ?_
      refine Zqas ?_
      obtain ⟨b66, hb66, hF⟩ := F_bind hF
      replace hb66 := u8_spec hb66
      refine S_lit0 (es := List.map c_u8 [b66]) rfl ty_el_22 rfl rfl (by simp only [List.map_cons, List.map_nil, c_u8, hb66]; rfl) ?_
      refine S_app (j := 0) ok rfl rfl rfl rfl hg40 ty_el_22 ty_ni_22 hF ?_
      intro r67 hr67 ok hF
      refine Zqd0 ?_
      exact ⟨(a39 ++ [b66]), hF, r67, hr67, oy ok, wy ok⟩
     ·refine Zqd8 ?_
      refine S_ix rfl rfl ty_sl_22 ty_sz_5 hF (fun x68 _ hF => ?_)
      refine Zqbc ?_
      refine Zqgg ?_
      refine S_two (b := ((x68.toNat : Int) != (10 : Int))) 3 28 (.bool (((x68.toNat : Int) != (10 : Int)) || (a41 == (0 : Int)))) (fun hb69 => ?_) (fun hb69 => ?_) ?_
      ·refine Zqc9 ?_
       exact th
      ·refine Zqd7 ?_
       exact th
      refine Zqam ?_
      refine S_twoJ 7 36 hF (fun J71 hb70 hF => ?_) (fun J71 hb70 hF => ?_) (fun v72 hF => ?_)
      ·refine Zqck ?_
       refine Zqc9 ?_
       exact tw
      ·refine Zqek ?_
       refine Zqbf ?_
       refine Zqb4 ?_
       refine S_ix rfl rfl ty_sl_22 ty_sz_5 hF (fun x73 _ hF => ?_)
       refine Zqd4 ?_
       refine Zqgk ?_
       exact tw
      ·refine Zqaa ?_
       refine C_if rfl hF (fun hb74 hF => ?_) fun hb74 hF => ?_
       ·refine C_reg (mdl [(43, 2)]) ?_
        refine Zqas ?_
        refine Zqgi ?_
        refine S_ix rfl rfl ty_sl_22 ty_sz_5 hF (fun x75 _ hF => ?_)
        refine Zqbc ?_
        obtain ⟨b76, hb76, hF⟩ := F_bind hF
        replace hb76 := u8_spec hb76
        refine S_lit0 (es := List.map c_u8 [b76]) rfl ty_el_22 rfl rfl (by simp only [List.map_cons, List.map_nil, c_u8, hb76]; rfl) ?_
        refine S_app (j := 0) ok rfl rfl rfl rfl hg40 ty_el_22 ty_ni_22 hF ?_
        intro r77 hr77 ok hF
        refine Zqd0 ?_
        exact ⟨(a39 ++ [b76]), hF, r77, hr77, oy ok, wy ok⟩
       ·refine Zqal ?_
        exact ⟨a39, hF, g40, hg40, oy ok, wy ok⟩
    ·rintro a61 s' hF ⟨g62, hg62, ok, hws⟩
     refine WP_ws hws ?_
     clear hws s'
     refine Zqd2 ?_
     refine ih45 (a61, (IntKind.wrap .i64 (a41 + (1 : Int)))) _ hF ?_
     exact ⟨g62, hg62, oy ok, wy ok⟩
   ·refine Zqcs ?_
    replace hF := hG43 _ (F_some hF)
    exact ⟨a39, hF, g40, hg40, oy ok, wy ok⟩
 ·rintro a36 s' hF ⟨g37, hg37, ok, hws⟩
  refine WP_ws hws ?_
  clear hws s'
  refine Zqcu ?_
  refine S_one 44 (v := .sl 1 (List.map c_u8 a36) 0) (.zero _ _ _) ?_
  refine Zqd0 ?_
  refine Zqaj ?_
  exact rt
theorem F_lecternref01_Lines_ok {β : Type} {f : (List UInt8) → Option β} {G : β → Prop} {R : D → Heap → Prop} {p0 : List UInt8} (h : Heap) (hF : OptP ((F_lecternref01_Lines p0).bind f) G) (hk : ∀ r, F_lecternref01_Lines p0 = some r → OptP (f r) G → R (.sl 1 (List.map c_u8 r) 0) h) : CallsA Tryz.prog 20 [.sl 1 (List.map c_u8 p0) 0] h R := by
 obtain ⟨r0, hr, hF⟩ := F_bind hF
 refine (F_lecternref01_Lines_w (G := fun r => r = r0) p0 h ⟨r0, hr, rfl⟩).mono ?_
 rintro _ _ ⟨r, rfl, rfl, rfl⟩
 exact hk _ hr hF
theorem F_lecternref03_Text_w (p0 : List UInt8) {G : (List UInt8) → Prop} (h : Heap) (hF : OptP (F_lecternref03_Text p0) G) : CallsA Tryz.prog 10 [.sl 1 (List.map c_u8 p0) 0] h fun d h' => ∃ r, G r ∧ d = .str r ∧ h' = h := by
 refine CallsA.ret ?_
 refine C_body Tryz.func10 rfl en_10 Tryz.ntmps10 rfl (fun ok => ?_)
 rw [F_lecternref03_Text] at hF
 refine Zqb1 ?_
 refine S_a (v := .str ([] : List UInt8)) rfl ?_
 refine Zqaa ?_
 refine C_join hF (fun (a15 : (List UInt8)) s' => OK h [] ∧ WS s' ⟨mkSl 29 [(0, .sl 1 (List.map c_u8 a15) 0)], Hp h []⟩) (fun J16 hF => ?_) ?_
 ·refine Zqf2 ?_
  refine Zqc6 ?_
  refine S_twoJ 5 11 hF (fun J18 hb17 hF => ?_) (fun J18 hb17 hF => ?_) (fun v19 hF => ?_)
  ·refine Zqdh ?_
   refine S_ix rfl rfl ty_sl_22 ty_sz_5 hF (fun x20 _ hF => ?_)
   refine Zqf4 ?_
   exact tw
  ·refine Zqev ?_
   exact tw
  ·refine Zqam ?_
   refine S_twoJ 5 17 hF (fun J22 hb21 hF => ?_) (fun J22 hb21 hF => ?_) (fun v23 hF => ?_)
   ·refine Zqdh ?_
    refine S_ix rfl rfl ty_sl_22 ty_sz_5 hF (fun x24 _ hF => ?_)
    refine Zqf4 ?_
    exact tw
   ·refine Zqev ?_
    exact tw
   ·refine Zqam ?_
    refine S_twoJ 5 23 hF (fun J26 hb25 hF => ?_) (fun J26 hb25 hF => ?_) (fun v27 hF => ?_)
    ·refine Zqdh ?_
     refine S_ix rfl rfl ty_sl_22 ty_sz_5 hF (fun x28 _ hF => ?_)
     refine Zqf4 ?_
     exact tw
    ·refine Zqev ?_
     exact tw
    ·refine Zqaa ?_
     refine C_if rfl hF (fun hb29 hF => ?_) fun hb29 hF => ?_
     ·refine Zqac ?_
      refine Zqas ?_
      refine S_slL rfl ty_sl_22 ty_sz_5 (bd_at rfl) bd_len hF (fun x30 _ hF => ?_)
      refine Zqd0 ?_
      exact ⟨x30, hF, oy ok, wy ok⟩
     ·refine Zqal ?_
      exact ⟨p0, hF, oy ok, wy ok⟩
 ·rintro a15 s' hF ⟨ok, hws⟩
  refine WP_ws hws ?_
  clear hws s'
  refine Zqcu ?_
  refine cl (F_lecternref01_Lines_ok _ hF fun x31 _ hF => ?_)
  refine Zqbe ?_
  refine Zqe4 ?_
  refine Zqaj ?_
  exact rt
theorem F_lecternref03_Text_ok {β : Type} {f : (List UInt8) → Option β} {G : β → Prop} {R : D → Heap → Prop} {p0 : List UInt8} (h : Heap) (hF : OptP ((F_lecternref03_Text p0).bind f) G) (hk : ∀ r, F_lecternref03_Text p0 = some r → OptP (f r) G → R (.str r) h) : CallsA Tryz.prog 10 [.sl 1 (List.map c_u8 p0) 0] h R := by
 obtain ⟨r0, hr, hF⟩ := F_bind hF
 refine (F_lecternref03_Text_w (G := fun r => r = r0) p0 h ⟨r0, hr, rfl⟩).mono ?_
 rintro _ _ ⟨r, rfl, rfl, rfl⟩
 exact hk _ hr hF
theorem F_lecternref01_Read_w (p0 : List UInt8) (p1 : Int) {G : Int × Int → Prop} (h : Heap) (hF : OptP (F_lecternref01_Read p0 p1) G) : CallsA Tryz.prog 32 [.sl 1 (List.map c_u8 p0) 0, .int .i64 p1] h fun d h' => ∃ r, G r ∧ d = .tup [.int .i64 r.1, .int .i64 r.2] ∧ h' = h := by
 refine CallsA.ret ?_
 refine C_body Tryz.func32 rfl en_32 Tryz.ntmps32 rfl (fun ok => ?_)
 rw [F_lecternref01_Read] at hF
 refine Zqb1 ?_
 refine Zqcn ?_
 refine Zqd8 ?_
 refine S_ix rfl rfl ty_sl_22 ty_sz_5 hF (fun x1 _ hF => ?_)
 refine Zqbc ?_
 refine Zqbo ?_
 refine Zqe6 ?_
 refine Zqfp ?_
 refine C_join hF (fun (v : Int × Int × Int) s' => match v with | (a9, a10, a11) => OK h [] ∧ WS s' ⟨mkSl 95 [(0, .sl 1 (List.map c_u8 p0) 0), (1, .int .i64 p1), (7, .int .i64 a9), (8, .int .i64 a10), (9, .int .i64 a11)], Hp h []⟩) (fun J12 hF => ?_) ?_
 ·refine Zqfq ?_
  refine Zqay ?_
  refine Zqcb ?_
  refine C_if rfl hF (fun hb13 hF => ?_) fun hb13 hF => ?_
  ·refine Zqb7 ?_
   refine Zqcf ?_
   exact rt
  ·refine Zqd3 ?_
   refine S_two (b := (decide ((192 : Int) ≤ (IntKind.wrap .i64 (x1.toNat : Int))))) 3 28 (.bool ((decide ((192 : Int) ≤ (IntKind.wrap .i64 (x1.toNat : Int)))) && (decide ((IntKind.wrap .i64 (x1.toNat : Int)) < (224 : Int))))) (fun hb14 => ?_) (fun hb14 => ?_) ?_
   ·refine Zqce ?_
    refine Zqf7 ?_
    exact th
   ·refine Zqcv ?_
    exact th
   refine Zqcb ?_
   refine C_if rfl hF (fun hb15 hF => ?_) fun hb15 hF => ?_
   ·refine Zqdj ?_
    refine Zqbf ?_
    refine Zqfp ?_
    exact ⟨((2 : Int), (IntKind.wrap .i64 ((IntKind.wrap .i64 (x1.toNat : Int)) - (192 : Int))), (128 : Int)), hF, oy ok, wy ok⟩
   ·refine Zqd3 ?_
    refine S_two (b := (decide ((224 : Int) ≤ (IntKind.wrap .i64 (x1.toNat : Int))))) 3 37 (.bool ((decide ((224 : Int) ≤ (IntKind.wrap .i64 (x1.toNat : Int)))) && (decide ((IntKind.wrap .i64 (x1.toNat : Int)) < (240 : Int))))) (fun hb16 => ?_) (fun hb16 => ?_) ?_
    ·refine Zqce ?_
     refine Zqf7 ?_
     exact th
    ·refine Zqcv ?_
     exact th
    refine Zqcb ?_
    refine C_if rfl hF (fun hb17 hF => ?_) fun hb17 hF => ?_
    ·refine Zqdj ?_
     refine Zqbf ?_
     refine Zqfp ?_
     exact ⟨((3 : Int), (IntKind.wrap .i64 ((IntKind.wrap .i64 (x1.toNat : Int)) - (224 : Int))), (2048 : Int)), hF, oy ok, wy ok⟩
    ·refine Zqd3 ?_
     refine S_two (b := (decide ((240 : Int) ≤ (IntKind.wrap .i64 (x1.toNat : Int))))) 3 46 (.bool ((decide ((240 : Int) ≤ (IntKind.wrap .i64 (x1.toNat : Int)))) && (decide ((IntKind.wrap .i64 (x1.toNat : Int)) < (248 : Int))))) (fun hb18 => ?_) (fun hb18 => ?_) ?_
     ·refine Zqce ?_
      refine Zqf7 ?_
      exact th
     ·refine Zqcv ?_
      exact th
     refine Zqcb ?_
     refine C_if rfl hF (fun hb19 hF => ?_) fun hb19 hF => ?_
     ·refine Zqdj ?_
      refine Zqbf ?_
      refine Zqfp ?_
      exact ⟨((4 : Int), (IntKind.wrap .i64 ((IntKind.wrap .i64 (x1.toNat : Int)) - (240 : Int))), (65536 : Int)), hF, oy ok, wy ok⟩
     ·refine Zqd6 ?_
      exact rt
 ·rintro ⟨a9, a10, a11⟩ s' hF ⟨ok, hws⟩
  refine WP_ws hws ?_
  clear hws s'
  refine Zqch ?_
  refine Zqcm ?_
  refine Zqdw ?_
  refine Zqbg ?_
  refine Zqaa ?_
  refine C_if rfl hF (fun hb20 hF => ?_) fun hb20 hF => ?_
  ·refine Zqd6 ?_
   exact rt
  ·refine Zqal ?_
   refine C_join hF (fun (a27 : Int) s' => OK h [] ∧ WS s' ⟨mkSl 95 [(7, .int .i64 a9), (8, .int .i64 a27), (9, .int .i64 a11)], Hp h []⟩) (fun J28 hF => ?_) ?_
   ·refine Zqd9 ?_
    refine C_loop (σ := Int × Int) hF (fun (v : Int × Int) s' => match v with | (a29, a30) => OK h [] ∧ WS s' ⟨mkSl 95 [(0, .sl 1 (List.map c_u8 p0) 0), (1, .int .i64 p1), (7, .int .i64 a9), (8, .int .i64 a29), (9, .int .i64 a11), (10, .int .i64 a30)], Hp h []⟩) ?_ ?_
    ·exact ⟨oy ok, wy ok⟩
    ·rintro G31 hG32 rec33 ⟨a29, a30⟩ s' ih34 hF ⟨ok, hws⟩
     refine WP_ws hws ?_
     clear hws s'
     rw [F_lecternref01_Read_l0] at hF
     refine Zqer ?_
     refine Zqc0 ?_
     refine C_if rfl hF (fun hb35 hF => ?_) fun hb35 hF => ?_
     ·refine Zqem ?_
      refine Zqd8 ?_
      refine Zqcm ?_
      refine S_ix rfl rfl ty_sl_22 ty_sz_5 hF (fun x36 _ hF => ?_)
      refine Zqbc ?_
      refine Zqbo ?_
      refine Zqdu ?_
      refine Zqen ?_
      refine S_two (b := (decide ((IntKind.wrap .i64 (x36.toNat : Int)) < (128 : Int)))) 3 72 (.bool ((decide ((IntKind.wrap .i64 (x36.toNat : Int)) < (128 : Int))) || (decide ((191 : Int) < (IntKind.wrap .i64 (x36.toNat : Int)))))) (fun hb37 => ?_) (fun hb37 => ?_) ?_
      ·refine Zqc9 ?_
       exact th
      ·refine Zqce ?_
       refine Zqbg ?_
       refine Zqcp ?_
       exact th
      refine Zqaa ?_
      refine C_if rfl hF (fun hb38 hF => ?_) fun hb38 hF => ?_
      ·refine Zqd6 ?_
       replace hF := hG32 _ (F_some hF)
       exact rt
      ·refine Zqfs ?_
       refine S_bin rfl rfl (ev_mul ..) ?_
       refine Zqcm ?_
       refine Zqbf ?_
       refine Zqb5 ?_
       refine Zqd2 ?_
       refine ih34 ((IntKind.wrap .i64 ((IntKind.wrap .i64 ((IntKind.wrap .i64 ((64 : Int) * a29)) + (IntKind.wrap .i64 (x36.toNat : Int)))) - (128 : Int))), (IntKind.wrap .i64 (a30 + (1 : Int)))) _ hF ?_
       exact ⟨oy ok, wy ok⟩
     ·refine Zqcs ?_
      replace hF := hG32 _ (F_some hF)
      exact ⟨a29, hF, oy ok, wy ok⟩
   ·rintro a27 s' hF ⟨ok, hws⟩
    refine WP_ws hws ?_
    clear hws s'
    refine Zqer ?_
    refine Zqen ?_
    refine S_two (b := (decide (a27 < a11))) 3 84 (.bool ((decide (a27 < a11)) || (decide ((1114111 : Int) < a27)))) (fun hb39 => ?_) (fun hb39 => ?_) ?_
    ·refine Zqc9 ?_
     exact th
    ·refine Zqce ?_
     refine Zqbg ?_
     refine Zqcp ?_
     exact th
    refine Zqam ?_
    refine S_two (b := ((decide (a27 < a11)) || (decide ((1114111 : Int) < a27)))) 7 92 (.bool (((decide (a27 < a11)) || (decide ((1114111 : Int) < a27))) || ((decide ((55296 : Int) ≤ a27)) && (decide (a27 ≤ (57343 : Int)))))) (fun hb40 => ?_) (fun hb40 => ?_) ?_
    ·refine Zqe7 ?_
     exact th
    ·refine Zqe8 ?_
     refine S_two (b := (decide ((55296 : Int) ≤ a27))) 3 91 (.bool ((decide ((55296 : Int) ≤ a27)) && (decide (a27 ≤ (57343 : Int))))) (fun hb42 => ?_) (fun hb42 => ?_) ?_
     ·refine Zqe9 ?_
      exact th
     ·refine Zqej ?_
      exact th
     refine Zqb9 ?_
     exact th
    refine Zqaa ?_
    refine C_if rfl hF (fun hb43 hF => ?_) fun hb43 hF => ?_
    ·refine Zqd6 ?_
     exact rt
    ·refine Zqal ?_
     refine Zqd5 ?_
     refine Zqcf ?_
     exact rt
theorem F_lecternref01_Read_ok {β : Type} {f : Int × Int → Option β} {G : β → Prop} {R : D → Heap → Prop} {p0 : List UInt8} {p1 : Int} (h : Heap) (hF : OptP ((F_lecternref01_Read p0 p1).bind f) G) (hk : ∀ r, F_lecternref01_Read p0 p1 = some r → OptP (f r) G → R (.tup [.int .i64 r.1, .int .i64 r.2]) h) : CallsA Tryz.prog 32 [.sl 1 (List.map c_u8 p0) 0, .int .i64 p1] h R := by
 obtain ⟨r0, hr, hF⟩ := F_bind hF
 refine (F_lecternref01_Read_w (G := fun r => r = r0) p0 p1 h ⟨r0, hr, rfl⟩).mono ?_
 rintro _ _ ⟨r, rfl, rfl, rfl⟩
 exact hk _ hr hF
theorem F_lecternref01_Char_w (p0 : Int) {G : Bool → Prop} (h : Heap) (hF : OptP (F_lecternref01_Char p0) G) : CallsA Tryz.prog 33 [.int .i64 p0] h fun d h' => ∃ r, G r ∧ d = .bool r ∧ h' = h := by
 refine CallsA.ret ?_
 refine C_body Tryz.func33 rfl en_33 Tryz.ntmps33 rfl (fun ok => ?_)
 rw [F_lecternref01_Char] at hF
 refine Zqdb ?_
 refine Zqb7 ?_
 refine Zqdr ?_
 refine S_two (b := (p0 == (9 : Int))) 3 8 (.bool ((p0 == (9 : Int)) || (p0 == (10 : Int)))) (fun hb1 => ?_) (fun hb1 => ?_) ?_
 ·refine Zqc9 ?_
  exact th
 ·refine Zqd7 ?_
  exact th
 refine Zqam ?_
 refine S_two (b := ((p0 == (9 : Int)) || (p0 == (10 : Int)))) 3 12 (.bool (((p0 == (9 : Int)) || (p0 == (10 : Int))) || (p0 == (13 : Int)))) (fun hb2 => ?_) (fun hb2 => ?_) ?_
 ·refine Zqc9 ?_
  exact th
 ·refine Zqd7 ?_
  exact th
 refine Zqam ?_
 refine S_two (b := (((p0 == (9 : Int)) || (p0 == (10 : Int))) || (p0 == (13 : Int)))) 7 20 (.bool ((((p0 == (9 : Int)) || (p0 == (10 : Int))) || (p0 == (13 : Int))) || ((decide ((32 : Int) ≤ p0)) && (decide (p0 ≤ (55295 : Int)))))) (fun hb3 => ?_) (fun hb3 => ?_) ?_
 ·refine Zqe7 ?_
  exact th
 ·refine Zqe8 ?_
  refine S_two (b := (decide ((32 : Int) ≤ p0))) 3 19 (.bool ((decide ((32 : Int) ≤ p0)) && (decide (p0 ≤ (55295 : Int))))) (fun hb5 => ?_) (fun hb5 => ?_) ?_
  ·refine Zqe9 ?_
   exact th
  ·refine Zqej ?_
   exact th
  refine Zqb9 ?_
  exact th
 refine Zqam ?_
 refine S_two (b := ((((p0 == (9 : Int)) || (p0 == (10 : Int))) || (p0 == (13 : Int))) || ((decide ((32 : Int) ≤ p0)) && (decide (p0 ≤ (55295 : Int)))))) 7 28 (.bool (((((p0 == (9 : Int)) || (p0 == (10 : Int))) || (p0 == (13 : Int))) || ((decide ((32 : Int) ≤ p0)) && (decide (p0 ≤ (55295 : Int))))) || ((decide ((57344 : Int) ≤ p0)) && (decide (p0 ≤ (65533 : Int)))))) (fun hb6 => ?_) (fun hb6 => ?_) ?_
 ·refine Zqe7 ?_
  exact th
 ·refine Zqe8 ?_
  refine S_two (b := (decide ((57344 : Int) ≤ p0))) 3 27 (.bool ((decide ((57344 : Int) ≤ p0)) && (decide (p0 ≤ (65533 : Int))))) (fun hb8 => ?_) (fun hb8 => ?_) ?_
  ·refine Zqe9 ?_
   exact th
  ·refine Zqej ?_
   exact th
  refine Zqb9 ?_
  exact th
 refine Zqam ?_
 refine S_two (b := (((((p0 == (9 : Int)) || (p0 == (10 : Int))) || (p0 == (13 : Int))) || ((decide ((32 : Int) ≤ p0)) && (decide (p0 ≤ (55295 : Int))))) || ((decide ((57344 : Int) ≤ p0)) && (decide (p0 ≤ (65533 : Int)))))) 7 36 (.bool ((((((p0 == (9 : Int)) || (p0 == (10 : Int))) || (p0 == (13 : Int))) || ((decide ((32 : Int) ≤ p0)) && (decide (p0 ≤ (55295 : Int))))) || ((decide ((57344 : Int) ≤ p0)) && (decide (p0 ≤ (65533 : Int))))) || ((decide ((65536 : Int) ≤ p0)) && (decide (p0 ≤ (1114111 : Int)))))) (fun hb9 => ?_) (fun hb9 => ?_) ?_
 ·refine Zqe7 ?_
  exact th
 ·refine Zqe8 ?_
  refine S_two (b := (decide ((65536 : Int) ≤ p0))) 3 35 (.bool ((decide ((65536 : Int) ≤ p0)) && (decide (p0 ≤ (1114111 : Int))))) (fun hb11 => ?_) (fun hb11 => ?_) ?_
  ·refine Zqe9 ?_
   exact th
  ·refine Zqej ?_
   exact th
  refine Zqb9 ?_
  exact th
 refine Zqcl ?_
 exact rt
theorem F_lecternref01_Char_ok {β : Type} {f : Bool → Option β} {G : β → Prop} {R : D → Heap → Prop} {p0 : Int} (h : Heap) (hF : OptP ((F_lecternref01_Char p0).bind f) G) (hk : ∀ r, F_lecternref01_Char p0 = some r → OptP (f r) G → R (.bool r) h) : CallsA Tryz.prog 33 [.int .i64 p0] h R := by
 obtain ⟨r0, hr, hF⟩ := F_bind hF
 refine (F_lecternref01_Char_w (G := fun r => r = r0) p0 h ⟨r0, hr, rfl⟩).mono ?_
 rintro _ _ ⟨r, rfl, rfl, rfl⟩
 exact hk _ hr hF
theorem F_lecternref01_Fault_w (p0 : List UInt8) {G : Int × Int → Prop} (h : Heap) (hF : OptP (F_lecternref01_Fault p0) G) : CallsA Tryz.prog 16 [.sl 1 (List.map c_u8 p0) 0] h fun d h' => ∃ r, G r ∧ d = .tup [.int .i64 r.1, .int .i64 r.2] ∧ h' = h := by
 refine CallsA.ret ?_
 refine C_body Tryz.func16 rfl en_16 Tryz.ntmps16 rfl (fun ok => ?_)
 rw [F_lecternref01_Fault] at hF
 refine Zqb1 ?_
 refine Zqcn ?_
 refine C_join hF (fun (_ : Unit) s' => OK h [] ∧ WS s' ⟨mkSl 27 [], Hp h []⟩) (fun J7 hF => ?_) ?_
 ·refine Zqd9 ?_
  refine C_loop (σ := Int) hF (fun (a8 : Int) s' => OK h [] ∧ WS s' ⟨mkSl 27 [(0, .sl 1 (List.map c_u8 p0) 0), (4, .int .i64 a8)], Hp h []⟩) ?_ ?_
  ·exact ⟨oy ok, wy ok⟩
  ·rintro G9 hG10 rec11 a8 s' ih12 hF ⟨ok, hws⟩
   refine WP_ws hws ?_
   clear hws s'
   rw [F_lecternref01_Fault_l0] at hF
   refine Zqf8 ?_
   refine C_if rfl hF (fun hb13 hF => ?_) fun hb13 hF => ?_
   ·refine Zqea ?_
    refine Zqd8 ?_
    refine cl (F_lecternref01_Read_ok _ hF fun x14 _ hF => ?_)
    refine Zqgj ?_
    refine Zqdy ?_
    refine C_if rfl hF (fun hb15 hF => ?_) fun hb15 hF => ?_
    ·refine Zqb7 ?_
     refine Zqcf ?_
     replace hF := hG10 _ (F_some hF)
     exact rt
    ·refine Zqgl ?_
     refine cl (F_lecternref01_Char_ok _ hF fun x16 _ hF => ?_)
     refine Zqei ?_
     refine C_if rfl hF (fun hb17 hF => ?_) fun hb17 hF => ?_
     ·refine Zqb7 ?_
      refine Zqcf ?_
      replace hF := hG10 _ (F_some hF)
      exact rt
     ·refine Zqfs ?_
      refine Zqdk ?_
      refine ih12 (IntKind.wrap .i64 (a8 + x14.2)) _ hF ?_
      exact ⟨oy ok, wy ok⟩
   ·refine Zqcs ?_
    replace hF := hG10 _ (F_some hF)
    exact ⟨(), hF, oy ok, wy ok⟩
 ·rintro ⟨⟩ s' hF ⟨ok, hws⟩
  refine WP_ws hws ?_
  clear hws s'
  refine Zqd6 ?_
  exact rt
theorem F_lecternref01_Fault_ok {β : Type} {f : Int × Int → Option β} {G : β → Prop} {R : D → Heap → Prop} {p0 : List UInt8} (h : Heap) (hF : OptP ((F_lecternref01_Fault p0).bind f) G) (hk : ∀ r, F_lecternref01_Fault p0 = some r → OptP (f r) G → R (.tup [.int .i64 r.1, .int .i64 r.2]) h) : CallsA Tryz.prog 16 [.sl 1 (List.map c_u8 p0) 0] h R := by
 obtain ⟨r0, hr, hF⟩ := F_bind hF
 refine (F_lecternref01_Fault_w (G := fun r => r = r0) p0 h ⟨r0, hr, rfl⟩).mono ?_
 rintro _ _ ⟨r, rfl, rfl, rfl⟩
 exact hk _ hr hF
theorem F_lecternref03_Stands_w (p0 : List UInt8) (p1 : Int) (p2 : List UInt8) {G : Bool → Prop} (h : Heap) (hF : OptP (F_lecternref03_Stands p0 p1 p2) G) : CallsA Tryz.prog 34 [.str p0, .int .i64 p1, .str p2] h fun d h' => ∃ r, G r ∧ d = .bool r ∧ h' = h := by
 refine CallsA.ret ?_
 refine C_body Tryz.func34 rfl en_34 Tryz.ntmps34 rfl (fun ok => ?_)
 rw [F_lecternref03_Stands] at hF
 refine Zqdb ?_
 refine Zqb7 ?_
 refine Zqe0 ?_
 refine Zqdg ?_
 refine Zqa8 ?_
 refine Zqam ?_
 refine S_twoJ 10 24 hF (fun J2 hb1 hF => ?_) (fun J2 hb1 hF => ?_) (fun v3 hF => ?_)
 ·refine Zqef ?_
  refine Zqcc ?_
  refine Zqcr ?_
  refine Zqa9 ?_
  refine Zqb4 ?_
  refine Zqe5 ?_
  refine S_slS rfl ty_st_9 (bd_at rfl) (bd_at rfl) hF (fun x4 _ hF => ?_)
  refine Zqb4 ?_
  refine Zqcr ?_
  refine Zqgf ?_
  exact tw
 ·refine Zqck ?_
  refine Zqeh ?_
  exact tw
 ·refine Zqcl ?_
  exact rt
theorem F_lecternref03_Stands_ok {β : Type} {f : Bool → Option β} {G : β → Prop} {R : D → Heap → Prop} {p0 : List UInt8} {p1 : Int} {p2 : List UInt8} (h : Heap) (hF : OptP ((F_lecternref03_Stands p0 p1 p2).bind f) G) (hk : ∀ r, F_lecternref03_Stands p0 p1 p2 = some r → OptP (f r) G → R (.bool r) h) : CallsA Tryz.prog 34 [.str p0, .int .i64 p1, .str p2] h R := by
 obtain ⟨r0, hr, hF⟩ := F_bind hF
 refine (F_lecternref03_Stands_w (G := fun r => r = r0) p0 p1 p2 h ⟨r0, hr, rfl⟩).mono ?_
 rintro _ _ ⟨r, rfl, rfl, rfl⟩
 exact hk _ hr hF
theorem F_lecternref03_White_w (p0 : List UInt8) (p1 : Int) {G : Int → Prop} (h : Heap) (hF : OptP (F_lecternref03_White p0 p1) G) : CallsA Tryz.prog 35 [.str p0, .int .i64 p1] h fun d h' => ∃ r, G r ∧ d = .int .i64 r ∧ h' = h := by
 refine CallsA.ret ?_
 refine C_body Tryz.func35 rfl en_35 Tryz.ntmps35 rfl (fun ok => ?_)
 rw [F_lecternref03_White] at hF
 refine Zqcx ?_
 refine C_join hF (fun (a19 : Int) s' => OK h [] ∧ WS s' ⟨mkSl 36 [(1, .int .i64 a19)], Hp h []⟩) (fun J20 hF => ?_) ?_
 ·refine Zqaw ?_
  refine C_loop (σ := Int) hF (fun (a21 : Int) s' => OK h [] ∧ WS s' ⟨mkSl 36 [(0, .str p0), (1, .int .i64 a21)], Hp h []⟩) ?_ ?_
  ·exact ⟨oy ok, wy ok⟩
  ·rintro G22 hG23 rec24 a21 s' ih25 hF ⟨ok, hws⟩
   refine WP_ws hws ?_
   clear hws s'
   rw [F_lecternref03_White_l0] at hF
   refine Zqgm ?_
   refine Zqen ?_
   refine S_twoJ 23 32 hF (fun J27 hb26 hF => ?_) (fun J27 hb26 hF => ?_) (fun v28 hF => ?_)
   ·refine Zqef ?_
    refine S_ixS rfl rfl ty_st_9 hF (fun x29 _ hF => ?_)
    refine Zqdn ?_
    refine Zqdp ?_
    refine S_twoJ 5 19 hF (fun J31 hb30 hF => ?_) (fun J31 hb30 hF => ?_) (fun v32 hF => ?_)
    ·refine Zqck ?_
     refine Zqfo ?_
     exact tw
    ·refine Zqef ?_
     refine S_ixS rfl rfl ty_st_9 hF (fun x33 _ hF => ?_)
     refine Zqdn ?_
     refine Zqfz ?_
     exact tw
    ·refine Zqf0 ?_
     refine S_twoJ 5 25 hF (fun J35 hb34 hF => ?_) (fun J35 hb34 hF => ?_) (fun v36 hF => ?_)
     ·refine Zqck ?_
      refine Zqfo ?_
      exact tw
     ·refine Zqef ?_
      refine S_ixS rfl rfl ty_st_9 hF (fun x37 _ hF => ?_)
      refine Zqdn ?_
      refine Zqfz ?_
      exact tw
     ·refine Zqf0 ?_
      refine S_twoJ 5 31 hF (fun J39 hb38 hF => ?_) (fun J39 hb38 hF => ?_) (fun v40 hF => ?_)
      ·refine Zqck ?_
       refine Zqfo ?_
       exact tw
      ·refine Zqef ?_
       refine S_ixS rfl rfl ty_st_9 hF (fun x41 _ hF => ?_)
       refine Zqdn ?_
       refine Zqfz ?_
       exact tw
      ·refine Zqb8 ?_
       exact tw
   ·refine Zqdf ?_
    refine Zqfa ?_
    refine Zqb6 ?_
    refine Zqfa ?_
    refine Zqb6 ?_
    refine Zqfa ?_
    refine Zqb3 ?_
    refine Zqb9 ?_
    exact tw
   ·refine Zqaa ?_
    refine C_if rfl hF (fun hb42 hF => ?_) fun hb42 hF => ?_
    ·refine Zqea ?_
     refine Zqd2 ?_
     refine ih25 (IntKind.wrap .i64 (a21 + (1 : Int))) _ hF ?_
     exact ⟨oy ok, wy ok⟩
    ·refine Zqcs ?_
     replace hF := hG23 _ (F_some hF)
     exact ⟨a21, hF, oy ok, wy ok⟩
 ·rintro a19 s' hF ⟨ok, hws⟩
  refine WP_ws hws ?_
  clear hws s'
  refine Zqec ?_
  exact rt
theorem F_lecternref03_White_ok {β : Type} {f : Int → Option β} {G : β → Prop} {R : D → Heap → Prop} {p0 : List UInt8} {p1 : Int} (h : Heap) (hF : OptP ((F_lecternref03_White p0 p1).bind f) G) (hk : ∀ r, F_lecternref03_White p0 p1 = some r → OptP (f r) G → R (.int .i64 r) h) : CallsA Tryz.prog 35 [.str p0, .int .i64 p1] h R := by
 obtain ⟨r0, hr, hF⟩ := F_bind hF
 refine (F_lecternref03_White_w (G := fun r => r = r0) p0 p1 h ⟨r0, hr, rfl⟩).mono ?_
 rintro _ _ ⟨r, rfl, rfl, rfl⟩
 exact hk _ hr hF
theorem F_lecternref03_Find_w (p0 : List UInt8) (p1 : Int) (p2 : List UInt8) {G : Int → Prop} (h : Heap) (hF : OptP (F_lecternref03_Find p0 p1 p2) G) : CallsA Tryz.prog 37 [.str p0, .int .i64 p1, .str p2] h fun d h' => ∃ r, G r ∧ d = .int .i64 r ∧ h' = h := by
 refine CallsA.ret ?_
 refine C_body Tryz.func37 rfl en_37 Tryz.ntmps37 rfl (fun ok => ?_)
 rw [F_lecternref03_Find] at hF
 refine Zqcx ?_
 refine C_join hF (fun (_ : Unit) s' => OK h [] ∧ WS s' ⟨mkSl 26 [], Hp h []⟩) (fun J5 hF => ?_) ?_
 ·refine Zqaw ?_
  refine C_loop (σ := Int) hF (fun (a6 : Int) s' => OK h [] ∧ WS s' ⟨mkSl 26 [(0, .str p0), (1, .int .i64 a6), (2, .str p2)], Hp h []⟩) ?_ ?_
  ·exact ⟨oy ok, wy ok⟩
  ·rintro G7 hG8 rec9 a6 s' ih10 hF ⟨ok, hws⟩
   refine WP_ws hws ?_
   clear hws s'
   rw [F_lecternref03_Find_l0] at hF
   refine Zqch ?_
   refine Zqe0 ?_
   refine Zqdg ?_
   refine Zqa8 ?_
   refine Zqaa ?_
   refine C_if rfl hF (fun hb11 hF => ?_) fun hb11 hF => ?_
   ·refine Zqem ?_
    refine Zqct ?_
    refine Zqah ?_
    refine Zqe0 ?_
    refine S_slS rfl ty_st_9 (bd_at rfl) (bd_at rfl) hF (fun x12 _ hF => ?_)
    refine Zqak ?_
    refine Zqfx ?_
    refine C_if rfl hF (fun hb13 hF => ?_) fun hb13 hF => ?_
    ·refine Zqec ?_
     replace hF := hG8 _ (F_some hF)
     exact rt
    ·refine Zqal ?_
     refine Zqd2 ?_
     refine ih10 (IntKind.wrap .i64 (a6 + (1 : Int))) _ hF ?_
     exact ⟨oy ok, wy ok⟩
   ·refine Zqcs ?_
    replace hF := hG8 _ (F_some hF)
    exact ⟨(), hF, oy ok, wy ok⟩
 ·rintro ⟨⟩ s' hF ⟨ok, hws⟩
  refine WP_ws hws ?_
  clear hws s'
  refine Zqdo ?_
  exact rt
theorem F_lecternref03_Find_ok {β : Type} {f : Int → Option β} {G : β → Prop} {R : D → Heap → Prop} {p0 : List UInt8} {p1 : Int} {p2 : List UInt8} (h : Heap) (hF : OptP ((F_lecternref03_Find p0 p1 p2).bind f) G) (hk : ∀ r, F_lecternref03_Find p0 p1 p2 = some r → OptP (f r) G → R (.int .i64 r) h) : CallsA Tryz.prog 37 [.str p0, .int .i64 p1, .str p2] h R := by
 obtain ⟨r0, hr, hF⟩ := F_bind hF
 refine (F_lecternref03_Find_w (G := fun r => r = r0) p0 p1 p2 h ⟨r0, hr, rfl⟩).mono ?_
 rintro _ _ ⟨r, rfl, rfl, rfl⟩
 exact hk _ hr hF
theorem F_lecternref03_value_w (p0 : List UInt8) (p1 : Int) {G : (List UInt8) × Int → Prop} (h : Heap) (hF : OptP (F_lecternref03_value p0 p1) G) : CallsA Tryz.prog 57 [.str p0, .int .i64 p1] h fun d h' => ∃ r, G r ∧ d = .tup [.str r.1, .int .i64 r.2] ∧ h' = h := by
 refine CallsA.ret ?_
 refine C_body Tryz.func57 rfl en_57 Tryz.ntmps57 rfl (fun ok => ?_)
 rw [F_lecternref03_value] at hF
 refine Zqb1 ?_
 refine S_a (v := .str ([] : List UInt8)) rfl ?_
 refine Zqb5 ?_
 refine Zqct ?_
 refine cl (F_lecternref03_White_ok _ hF fun x1 _ hF => ?_)
 refine Zqeu ?_
 refine Zqct ?_
 refine cl (F_lecternref03_Stands_ok _ hF fun x2 _ hF => ?_)
 refine Zqei ?_
 refine C_if rfl hF (fun hb3 hF => ?_) fun hb3 hF => ?_
 ·refine Zqb1 ?_
  refine S_a (v := .str ([] : List UInt8)) rfl ?_
  refine Zqca ?_
  exact rt
 ·refine Zqeo ?_
  refine Zqcm ?_
  refine cl (F_lecternref03_White_ok _ hF fun x4 _ hF => ?_)
  refine Zqeu ?_
  refine Zqct ?_
  refine cl (F_lecternref03_Stands_ok _ hF fun x5 _ hF => ?_)
  refine Zqa6 ?_
  refine Zqam ?_
  refine S_twoJ 5 27 hF (fun J7 hb6 hF => ?_) (fun J7 hb6 hF => ?_) (fun v8 hF => ?_)
  ·refine Zqef ?_
   refine cl (F_lecternref03_Stands_ok _ hF fun x9 _ hF => ?_)
   refine Zqgc ?_
   exact tw
  ·refine Zqev ?_
   exact tw
  ·refine Zqaa ?_
   refine C_if rfl hF (fun hb10 hF => ?_) fun hb10 hF => ?_
   ·refine Zqb1 ?_
    refine S_a (v := .str ([] : List UInt8)) rfl ?_
    refine Zqca ?_
    exact rt
   ·refine Zqeo ?_
    refine Zqcm ?_
    refine Zqak ?_
    refine Zqah ?_
    refine Zqcm ?_
    refine S_slS rfl ty_st_9 (bd_at rfl) (bd_at rfl) hF (fun x11 _ hF => ?_)
    refine cl (F_lecternref03_Find_ok _ hF fun x12 _ hF => ?_)
    refine Zqgd ?_
    refine C_if rfl hF (fun hb13 hF => ?_) fun hb13 hF => ?_
    ·refine Zqb1 ?_
     refine S_a (v := .str ([] : List UInt8)) rfl ?_
     refine Zqca ?_
     exact rt
    ·refine Zqeo ?_
     refine Zqcm ?_
     refine Zqah ?_
     refine S_slS rfl ty_st_9 (bd_at rfl) (bd_at rfl) hF (fun x14 _ hF => ?_)
     refine Zqcm ?_
     refine Zqaz ?_
     refine Zqca ?_
     exact rt
theorem F_lecternref03_value_ok {β : Type} {f : (List UInt8) × Int → Option β} {G : β → Prop} {R : D → Heap → Prop} {p0 : List UInt8} {p1 : Int} (h : Heap) (hF : OptP ((F_lecternref03_value p0 p1).bind f) G) (hk : ∀ r, F_lecternref03_value p0 p1 = some r → OptP (f r) G → R (.tup [.str r.1, .int .i64 r.2]) h) : CallsA Tryz.prog 57 [.str p0, .int .i64 p1] h R := by
 obtain ⟨r0, hr, hF⟩ := F_bind hF
 refine (F_lecternref03_value_w (G := fun r => r = r0) p0 p1 h ⟨r0, hr, rfl⟩).mono ?_
 rintro _ _ ⟨r, rfl, rfl, rfl⟩
 exact hk _ hr hF
theorem F_lecternref03_letter_w (p0 : Int) {G : Bool → Prop} (h : Heap) (hF : OptP (F_lecternref03_letter p0) G) : CallsA Tryz.prog 84 [.int .u8 p0] h fun d h' => ∃ r, G r ∧ d = .bool r ∧ h' = h := by
 refine CallsA.ret ?_
 refine C_body Tryz.func84 rfl en_84 Tryz.ntmps84 rfl (fun ok => ?_)
 rw [F_lecternref03_letter] at hF
 refine Zqdb ?_
 refine Zqd3 ?_
 refine S_two (b := (decide ((97 : Int) ≤ p0))) 3 8 (.bool ((decide ((97 : Int) ≤ p0)) && (decide (p0 ≤ (122 : Int))))) (fun hb1 => ?_) (fun hb1 => ?_) ?_
 ·refine Zqdm ?_
  exact th
 ·refine Zqcv ?_
  exact th
 refine Zqam ?_
 refine S_two (b := ((decide ((97 : Int) ≤ p0)) && (decide (p0 ≤ (122 : Int))))) 7 16 (.bool (((decide ((97 : Int) ≤ p0)) && (decide (p0 ≤ (122 : Int)))) || ((decide ((65 : Int) ≤ p0)) && (decide (p0 ≤ (90 : Int)))))) (fun hb2 => ?_) (fun hb2 => ?_) ?_
 ·refine Zqe7 ?_
  exact th
 ·refine Zqe8 ?_
  refine S_two (b := (decide ((65 : Int) ≤ p0))) 3 15 (.bool ((decide ((65 : Int) ≤ p0)) && (decide (p0 ≤ (90 : Int))))) (fun hb4 => ?_) (fun hb4 => ?_) ?_
  ·refine Zqe9 ?_
   exact th
  ·refine Zqej ?_
   exact th
  refine Zqb9 ?_
  exact th
 refine Zqcl ?_
 exact rt
theorem F_lecternref03_letter_ok {β : Type} {f : Bool → Option β} {G : β → Prop} {R : D → Heap → Prop} {p0 : Int} (h : Heap) (hF : OptP ((F_lecternref03_letter p0).bind f) G) (hk : ∀ r, F_lecternref03_letter p0 = some r → OptP (f r) G → R (.bool r) h) : CallsA Tryz.prog 84 [.int .u8 p0] h R := by
 obtain ⟨r0, hr, hF⟩ := F_bind hF
 refine (F_lecternref03_letter_w (G := fun r => r = r0) p0 h ⟨r0, hr, rfl⟩).mono ?_
 rintro _ _ ⟨r, rfl, rfl, rfl⟩
 exact hk _ hr hF
theorem F_lecternref03_digit_w (p0 : Int) {G : Bool → Prop} (h : Heap) (hF : OptP (F_lecternref03_digit p0) G) : CallsA Tryz.prog 85 [.int .u8 p0] h fun d h' => ∃ r, G r ∧ d = .bool r ∧ h' = h := by
 refine CallsA.ret ?_
 refine C_body Tryz.func85 rfl en_85 Tryz.ntmps85 rfl (fun ok => ?_)
 rw [F_lecternref03_digit] at hF
 refine Zqdb ?_
 refine Zqd3 ?_
 refine S_two (b := (decide ((48 : Int) ≤ p0))) 3 8 (.bool ((decide ((48 : Int) ≤ p0)) && (decide (p0 ≤ (57 : Int))))) (fun hb1 => ?_) (fun hb1 => ?_) ?_
 ·refine Zqdm ?_
  exact th
 ·refine Zqcv ?_
  exact th
 refine Zqcl ?_
 exact rt
theorem F_lecternref03_digit_ok {β : Type} {f : Bool → Option β} {G : β → Prop} {R : D → Heap → Prop} {p0 : Int} (h : Heap) (hF : OptP ((F_lecternref03_digit p0).bind f) G) (hk : ∀ r, F_lecternref03_digit p0 = some r → OptP (f r) G → R (.bool r) h) : CallsA Tryz.prog 85 [.int .u8 p0] h R := by
 obtain ⟨r0, hr, hF⟩ := F_bind hF
 refine (F_lecternref03_digit_w (G := fun r => r = r0) p0 h ⟨r0, hr, rfl⟩).mono ?_
 rintro _ _ ⟨r, rfl, rfl, rfl⟩
 exact hk _ hr hF
theorem F_lecternref03_allowed_w (p0 : Int) (p1 : List UInt8) {G : Bool → Prop} (h : Heap) (hF : OptP (F_lecternref03_allowed p0 p1) G) : CallsA Tryz.prog 58 [.int .i64 p0, .str p1] h fun d h' => ∃ r, G r ∧ d = .bool r ∧ h' = h := by
 refine CallsA.ret ?_
 refine C_body Tryz.func58 rfl en_58 Tryz.ntmps58 rfl (fun ok => ?_)
 rw [F_lecternref03_allowed] at hF
 refine Zqdb ?_
 refine Zqch ?_
 refine Zqdy ?_
 refine C_if rfl hF (fun hb1 hF => ?_) fun hb1 hF => ?_
 ·refine Zqcd ?_
  refine Zqba ?_
  refine Zqam ?_
  refine S_two (b := (p1 == ([121, 101, 115] : List UInt8))) 3 14 (.bool ((p1 == ([121, 101, 115] : List UInt8)) || (p1 == ([110, 111] : List UInt8)))) (fun hb2 => ?_) (fun hb2 => ?_) ?_
  ·refine Zqc9 ?_
   exact th
  ·refine Zqc1 ?_
   refine Zqba ?_
   refine Zqcp ?_
   exact th
  refine Zqcl ?_
  exact rt
 ·refine Zqal ?_
  refine C_join hF (fun (_ : Unit) s' => OK h [] ∧ WS s' ⟨mkSl 80 [(1, .str p1)], Hp h []⟩) (fun J54 hF => ?_) ?_
  ·refine Zqb7 ?_
   refine Zqdy ?_
   refine C_if rfl hF (fun hb55 hF => ?_) fun hb55 hF => ?_
   ·refine Zqe2 ?_
    refine Zqba ?_
    refine Zqam ?_
    refine S_twoJ 5 24 hF (fun J57 hb56 hF => ?_) (fun J57 hb56 hF => ?_) (fun v58 hF => ?_)
    ·refine Zqf6 ?_
     exact tw
    ·refine Zqc1 ?_
     refine S_ixS rfl rfl ty_st_9 hF (fun x59 _ hF => ?_)
     refine Zqb4 ?_
     refine cl (F_lecternref03_letter_ok _ hF fun x60 _ hF => ?_)
     refine Zqfm ?_
     exact tw
    ·refine Zqaa ?_
     refine C_if rfl hF (fun hb61 hF => ?_) fun hb61 hF => ?_
     ·refine Zqdc ?_
      exact rt
     ·refine Zqal ?_
      refine C_join hF (fun (_ : Unit) s' => OK h [] ∧ WS s' ⟨mkSl 80 [], Hp h []⟩) (fun J84 hF => ?_) ?_
      ·refine Zqd9 ?_
       refine C_loop (σ := Int) hF (fun (a85 : Int) s' => OK h [] ∧ WS s' ⟨mkSl 80 [(1, .str p1), (5, .int .i64 a85)], Hp h []⟩) ?_ ?_
       ·exact ⟨oy ok, wy ok⟩
       ·rintro G86 hG87 rec88 a85 s' ih89 hF ⟨ok, hws⟩
        refine WP_ws hws ?_
        clear hws s'
        rw [F_lecternref03_allowed_l0] at hF
        refine Zqgm ?_
        refine Zqc0 ?_
        refine C_if rfl hF (fun hb90 hF => ?_) fun hb90 hF => ?_
        ·refine Zqem ?_
         refine Zqct ?_
         refine S_ixS rfl rfl ty_st_9 hF (fun x91 _ hF => ?_)
         refine cl (F_lecternref03_letter_ok _ hF fun x92 _ hF => ?_)
         refine Zqa6 ?_
         refine Zqam ?_
         refine S_twoJ 6 42 hF (fun J94 hb93 hF => ?_) (fun J94 hb93 hF => ?_) (fun v95 hF => ?_)
         ·refine Zqef ?_
          refine S_ixS rfl rfl ty_st_9 hF (fun x96 _ hF => ?_)
          refine Zqb4 ?_
          refine cl (F_lecternref03_digit_ok _ hF fun x97 _ hF => ?_)
          refine Zqgc ?_
          exact tw
         ·refine Zqeh ?_
          exact tw
         ·refine Zqam ?_
          refine S_twoJ 5 48 hF (fun J99 hb98 hF => ?_) (fun J99 hb98 hF => ?_) (fun v100 hF => ?_)
          ·refine Zqef ?_
           refine S_ixS rfl rfl ty_st_9 hF (fun x101 _ hF => ?_)
           refine Zqfb ?_
           refine Zqci ?_
           exact tw
          ·refine Zqev ?_
           exact tw
          ·refine Zqam ?_
           refine S_twoJ 5 54 hF (fun J103 hb102 hF => ?_) (fun J103 hb102 hF => ?_) (fun v104 hF => ?_)
           ·refine Zqef ?_
            refine S_ixS rfl rfl ty_st_9 hF (fun x105 _ hF => ?_)
            refine Zqfb ?_
            refine Zqci ?_
            exact tw
           ·refine Zqev ?_
            exact tw
           ·refine Zqam ?_
            refine S_twoJ 5 60 hF (fun J107 hb106 hF => ?_) (fun J107 hb106 hF => ?_) (fun v108 hF => ?_)
            ·refine Zqef ?_
             refine S_ixS rfl rfl ty_st_9 hF (fun x109 _ hF => ?_)
             refine Zqfb ?_
             refine Zqci ?_
             exact tw
            ·refine Zqev ?_
             exact tw
            ·refine Zqaa ?_
             refine C_if rfl hF (fun hb110 hF => ?_) fun hb110 hF => ?_
             ·refine Zqdc ?_
              replace hF := hG87 _ (F_some hF)
              exact rt
             ·refine Zqal ?_
              refine Zqd2 ?_
              refine ih89 (IntKind.wrap .i64 (a85 + (1 : Int))) _ hF ?_
              exact ⟨oy ok, wy ok⟩
        ·refine Zqcs ?_
         replace hF := hG87 _ (F_some hF)
         exact ⟨(), hF, oy ok, wy ok⟩
      ·rintro ⟨⟩ s' hF ⟨ok, hws⟩
       refine WP_ws hws ?_
       clear hws s'
       refine Zqdc ?_
       exact rt
   ·refine Zqal ?_
    exact ⟨(), hF, oy ok, wy ok⟩
  ·rintro ⟨⟩ s' hF ⟨ok, hws⟩
   refine WP_ws hws ?_
   clear hws s'
   refine Zqe2 ?_
   refine Zqa9 ?_
   refine Zqen ?_
   refine S_twoJ 4 68 hF (fun J112 hb111 hF => ?_) (fun J112 hb111 hF => ?_) (fun v113 hF => ?_)
   ·refine Zqfy ?_
    exact tw
   ·refine Zqc1 ?_
    refine S_slS rfl ty_st_9 bd_no (bd_at rfl) hF (fun x114 _ hF => ?_)
    refine Zqb4 ?_
    refine Zqbp ?_
    refine Zqcp ?_
    exact tw
   ·refine Zqaa ?_
    refine C_if rfl hF (fun hb115 hF => ?_) fun hb115 hF => ?_
    ·refine Zqdc ?_
     exact rt
    ·refine Zqal ?_
     refine C_join hF (fun (_ : Unit) s' => OK h [] ∧ WS s' ⟨mkSl 80 [], Hp h []⟩) (fun J121 hF => ?_) ?_
     ·refine Zqd9 ?_
      refine C_loop (σ := Int) hF (fun (a122 : Int) s' => OK h [] ∧ WS s' ⟨mkSl 80 [(1, .str p1), (6, .int .i64 a122)], Hp h []⟩) ?_ ?_
      ·exact ⟨oy ok, wy ok⟩
      ·rintro G123 hG124 rec125 a122 s' ih126 hF ⟨ok, hws⟩
       refine WP_ws hws ?_
       clear hws s'
       rw [F_lecternref03_allowed_l1] at hF
       refine Zqgm ?_
       refine Zqc0 ?_
       refine C_if rfl hF (fun hb127 hF => ?_) fun hb127 hF => ?_
       ·refine Zqem ?_
        refine Zqct ?_
        refine S_ixS rfl rfl ty_st_9 hF (fun x128 _ hF => ?_)
        refine cl (F_lecternref03_digit_ok _ hF fun x129 _ hF => ?_)
        refine Zqei ?_
        refine C_if rfl hF (fun hb130 hF => ?_) fun hb130 hF => ?_
        ·refine Zqdc ?_
         replace hF := hG124 _ (F_some hF)
         exact rt
        ·refine Zqal ?_
         refine Zqd2 ?_
         refine ih126 (IntKind.wrap .i64 (a122 + (1 : Int))) _ hF ?_
         exact ⟨oy ok, wy ok⟩
       ·refine Zqcs ?_
        replace hF := hG124 _ (F_some hF)
        exact ⟨(), hF, oy ok, wy ok⟩
     ·rintro ⟨⟩ s' hF ⟨ok, hws⟩
      refine WP_ws hws ?_
      clear hws s'
      refine Zqdc ?_
      exact rt
theorem F_lecternref03_allowed_ok {β : Type} {f : Bool → Option β} {G : β → Prop} {R : D → Heap → Prop} {p0 : Int} {p1 : List UInt8} (h : Heap) (hF : OptP ((F_lecternref03_allowed p0 p1).bind f) G) (hk : ∀ r, F_lecternref03_allowed p0 p1 = some r → OptP (f r) G → R (.bool r) h) : CallsA Tryz.prog 58 [.int .i64 p0, .str p1] h R := by
 obtain ⟨r0, hr, hF⟩ := F_bind hF
 refine (F_lecternref03_allowed_w (G := fun r => r = r0) p0 p1 h ⟨r0, hr, rfl⟩).mono ?_
 rintro _ _ ⟨r, rfl, rfl, rfl⟩
 exact hk _ hr hF
theorem F_lecternref03_small_w (p0 : List UInt8) {G : (List UInt8) → Prop} (h : Heap) (hF : OptP (F_lecternref03_small p0) G) : CallsA Tryz.prog 59 [.str p0] h fun d h' => ∃ r, G r ∧ d = .str r ∧ h' = h := by
 refine CallsA.ret ?_
 refine C_body Tryz.func59 rfl en_59 Tryz.ntmps59 rfl (fun ok => ?_)
 rw [F_lecternref03_small] at hF
 refine Zqb1 ?_
 refine S_a (v := .str ([] : List UInt8)) rfl ?_
 refine Zqdi ?_
 refine C_reg (mdl [(6, 1)]) ?_
 refine Zqak ?_
 refine S_bytM ok rfl rfl ty_sl_22 ty_st_9 ty_ki_5 ?_
 intro u1 zu1 ok
 refine Zqbr ?_
 refine Zqaa ?_
 refine C_join hF (fun (a29 : (List UInt8)) s' => ∃ g28 : Nat, (g28 = 0 → a29 = []) ∧ OK h [moY g28 c_u8 a29] ∧ WS s' ⟨mkSl 35 [(3, mslO 1 g28 a29)], Hp h [moY g28 c_u8 a29]⟩) (fun J30 hF => ?_) ?_
 ·refine Zqd9 ?_
  refine C_loop (σ := (List UInt8) × Int) hF (fun (v : (List UInt8) × Int) s' => match v with | (a32, a33) => ∃ g31 : Nat, (g31 = 0 → a32 = []) ∧ OK h [moY g31 c_u8 a32] ∧ WS s' ⟨mkSl 35 [(3, mslO 1 g31 a32), (4, .int .i64 a33)], Hp h [moY g31 c_u8 a32]⟩) ?_ ?_
  ·exact ⟨u1, zu1, oy ok, wy ok⟩
  ·rintro G34 hG35 rec36 ⟨a32, a33⟩ s' ih37 hF ⟨g31, zg31, ok, hws⟩
   refine WP_ws hws ?_
   clear hws s'
   rw [F_lecternref03_small_l0] at hF
   refine Zqch ?_
   refine Zqbj ?_
   refine S_lenO zg31 rfl ty_sl_22 ?_
   refine Zqc0 ?_
   refine C_if rfl hF (fun hb38 hF => ?_) fun hb38 hF => ?_
   ·refine Zqal ?_
    refine C_join hF (fun (a50 : (List UInt8)) s' => ∃ g49 : Nat, (g49 = 0 → a50 = []) ∧ OK h [moY g49 c_u8 a50] ∧ WS s' ⟨mkSl 35 [(3, mslO 1 g49 a50), (4, .int .i64 a33)], Hp h [moY g49 c_u8 a50]⟩) (fun J51 hF => ?_) ?_
    ·refine Zqaw ?_
     refine Zqb1 ?_
     refine Zqbj ?_
     refine Zqah ?_
     refine S_ixO zg31 rfl rfl ty_sl_22 ty_sz_5 hF (fun x52 hx52 hF => ?_)
     refine S_ldYO (q := 1) (j := 0) (f0 := 0) ok rfl zg31 rfl rfl (fun _ => rfl) hx52 rfl rfl (p_one ty_ag_5 ty_sz_5 rfl) ?_
     refine Zqc6 ?_
     refine S_twoJ 6 24 hF (fun J54 hb53 hF => ?_) (fun J54 hb53 hF => ?_) (fun v55 hF => ?_)
     ·refine Zqb2 ?_
      refine Zqbj ?_
      refine Zqb4 ?_
      refine Zqcc ?_
      refine S_ixO zg31 rfl rfl ty_sl_22 ty_sz_5 hF (fun x56 hx56 hF => ?_)
      refine Zqb4 ?_
      refine S_ldYO (q := 1) (j := 0) (f0 := 0) ok rfl zg31 rfl rfl (fun _ => rfl) hx56 rfl rfl (p_one ty_ag_5 ty_sz_5 rfl) ?_
      refine Zqb4 ?_
      refine Zqa8 ?_
      refine Zqci ?_
      exact tw
     ·refine Zqeh ?_
      exact tw
     ·refine Zqaa ?_
      refine C_if rfl hF (fun hb57 hF => ?_) fun hb57 hF => ?_
      ·refine Zqac ?_
       refine Zqbj ?_
       refine Zqah ?_
       refine Zqbj ?_
       refine Zqah ?_
       refine S_ixO zg31 rfl rfl ty_sl_22 ty_sz_5 hF (fun x58 hx58 hF => ?_)
       refine S_ldYO (q := 1) (j := 0) (f0 := 0) ok rfl zg31 rfl rfl (fun _ => rfl) hx58 rfl rfl (p_one ty_ag_5 ty_sz_5 rfl) ?_
       refine Zqat ?_
       refine S_ixO zg31 rfl rfl ty_sl_22 ty_sz_5 hF (fun x59 hx59 hF => ?_)
       obtain ⟨b60, hb60, hF⟩ := F_bind hF
       replace hb60 := u8_spec hb60
       refine S_stYO (q := 1) (j := 0) (f0 := 0) (b := b60) ok zg31 rfl rfl rfl (fun _ => rfl) hx59 rfl rfl ty_sz_5 rfl (by simp only [c_u8, hb60]; rfl) (fun za61 ok => ?_)
       obtain ⟨a61, ha61, hF⟩ := F_let hF
       rw [← ha61] at ok za61
       rw [← ha61]
       have hms : mslO 1 g31 a32 = mslO 1 g31 a61 := mslO_len (by rw [ha61, List.length_set])
       try rw [hms] at ok
       try rw [hms]
       clear hms
       refine Zqaa ?_
       exact ⟨a61, hF, g31, za61, oy ok, wy ok⟩
      ·refine Zqal ?_
       exact ⟨a32, hF, g31, zg31, oy ok, wy ok⟩
    ·rintro a50 s' hF ⟨g49, zg49, ok, hws⟩
     refine WP_ws hws ?_
     clear hws s'
     refine Zqd2 ?_
     refine ih37 (a50, (IntKind.wrap .i64 (a33 + (1 : Int)))) _ hF ?_
     exact ⟨g49, zg49, oy ok, wy ok⟩
   ·refine Zqcs ?_
    replace hF := hG35 _ (F_some hF)
    exact ⟨a32, hF, g31, zg31, oy ok, wy ok⟩
 ·rintro a29 s' hF ⟨g28, zg28, ok, hws⟩
  refine WP_ws hws ?_
  clear hws s'
  refine Zqb1 ?_
  refine Zqbj ?_
  refine S_cvY (j := 0) ok zg28 rfl rfl ty_sl_22 ty_ki_5 ty_st_9 (slD_of_st ty_st_9) ?_
  refine Zqe4 ?_
  refine Zqaj ?_
  exact rt
theorem F_lecternref03_small_ok {β : Type} {f : (List UInt8) → Option β} {G : β → Prop} {R : D → Heap → Prop} {p0 : List UInt8} (h : Heap) (hF : OptP ((F_lecternref03_small p0).bind f) G) (hk : ∀ r, F_lecternref03_small p0 = some r → OptP (f r) G → R (.str r) h) : CallsA Tryz.prog 59 [.str p0] h R := by
 obtain ⟨r0, hr, hF⟩ := F_bind hF
 refine (F_lecternref03_small_w (G := fun r => r = r0) p0 h ⟨r0, hr, rfl⟩).mono ?_
 rintro _ _ ⟨r, rfl, rfl, rfl⟩
 exact hk _ hr hF
theorem F_lecternref03_declaration_w (p0 : List UInt8) {G : T_lecternref03_Token × Int × Int → Prop} (h : Heap) (hF : OptP (F_lecternref03_declaration p0) G) : CallsA Tryz.prog 36 [.str p0] h fun d h' => ∃ r, G r ∧ d = .tup [.agg (c_T_lecternref03_Token r.1), .int .i64 r.2.1, .int .i64 r.2.2] ∧ h' = h := by
 refine CallsA.ret ?_
 refine C_body Tryz.func36 rfl en_36 Tryz.ntmps36 rfl (fun ok => ?_)
 rw [F_lecternref03_declaration] at hF
 refine Zqab ?_
 refine C_reg (mdl [(2, 1)]) ?_
 refine S_all1 ok rfl ty_zc_37 ?_
 intro i1 hi1 ok
 refine Zqfr ?_
 refine C_reg (mdl [(5, 1)]) ?_
 refine S_bld (v := .agg [.int .i64 (1 : Int), .int .i64 (0 : Int), .str ([] : List UInt8), .snil, .str ([] : List UInt8), .int .i64 (0 : Int)]) (b_st ty_zc_37 ty_pl_37 rfl) ?_
 refine S_all1 ok rfl ty_zc_37 ?_
 intro i2 hi2 ok
 refine S_st (j := 0) (cs' := [.int .i64 (1 : Int), .int .i64 (0 : Int), .str ([] : List UInt8), .snil, .str ([] : List UInt8), .int .i64 (0 : Int)]) ok rfl rfl rfl hi2 rfl ty_sz_37 rfl rfl (fun ok => ?_)
 refine S_ghostO 0 3 2 (fun r3 => [.int .i64 (1 : Int), .int .i64 (0 : Int), .str ([] : List UInt8), .sl 2 (List.map c_T_scan_Pair ([] : List T_scan_Pair)) r3, .str ([] : List UInt8), .int .i64 (0 : Int)]) ok rfl hi2 rfl (fun _ => rfl) ?_
 intro r3 hr3 ok
 refine Zqaa ?_
 refine Zqcx ?_
 refine Zqdb ?_
 refine C_join hF (fun (v : Int × Int × (List UInt8) × (List T_scan_Pair) × (List UInt8) × Int × Int × Int × (List UInt8) × (List T_scan_Pair) × (List UInt8) × Int × Int × Bool) s' => match v with | (a69, a70, a71, a72, a73, a74, a75, a76, a77, a78, a80, a81, a82, a83) => ∃ g79 : Nat, g79 ≠ 0 ∧ OK h [(g79, .room), (i2, .cells [.int .i64 a75, .int .i64 a76, .str a77, .sl 2 (List.map c_T_scan_Pair a78) g79, .str a80, .int .i64 a81]), (i1, .cells [.int .i64 a69, .int .i64 a70, .str a71, .sl 2 (List.map c_T_scan_Pair a72) 0, .str a73, .int .i64 a74])] ∧ WS s' ⟨mkSl 86 [(0, .str p0), (2, .ptr i1 0), (5, .ptr i2 0), (6, .int .i64 a82), (7, .bool a83)], Hp h [(g79, .room), (i2, .cells [.int .i64 a75, .int .i64 a76, .str a77, .sl 2 (List.map c_T_scan_Pair a78) g79, .str a80, .int .i64 a81]), (i1, .cells [.int .i64 a69, .int .i64 a70, .str a71, .sl 2 (List.map c_T_scan_Pair a72) 0, .str a73, .int .i64 a74])]⟩) (fun J84 hF => ?_) ?_
 ·refine Zqd9 ?_
  refine C_loop (σ := Int × Int × (List UInt8) × (List T_scan_Pair) × (List UInt8) × Int × Int × Int × (List UInt8) × (List T_scan_Pair) × (List UInt8) × Int × Int × Bool × Int) hF (fun (v : Int × Int × (List UInt8) × (List T_scan_Pair) × (List UInt8) × Int × Int × Int × (List UInt8) × (List T_scan_Pair) × (List UInt8) × Int × Int × Bool × Int) s' => match v with | (a85, a86, a87, a88, a89, a90, a91, a92, a93, a94, a96, a97, a98, a99, a100) => ∃ g95 : Nat, g95 ≠ 0 ∧ OK h [(g95, .room), (i2, .cells [.int .i64 a91, .int .i64 a92, .str a93, .sl 2 (List.map c_T_scan_Pair a94) g95, .str a96, .int .i64 a97]), (i1, .cells [.int .i64 a85, .int .i64 a86, .str a87, .sl 2 (List.map c_T_scan_Pair a88) 0, .str a89, .int .i64 a90])] ∧ WS s' ⟨mkSl 86 [(0, .str p0), (2, .ptr i1 0), (5, .ptr i2 0), (6, .int .i64 a98), (7, .bool a99), (8, .int .i64 a100)], Hp h [(g95, .room), (i2, .cells [.int .i64 a91, .int .i64 a92, .str a93, .sl 2 (List.map c_T_scan_Pair a94) g95, .str a96, .int .i64 a97]), (i1, .cells [.int .i64 a85, .int .i64 a86, .str a87, .sl 2 (List.map c_T_scan_Pair a88) 0, .str a89, .int .i64 a90])]⟩) ?_ ?_
  ·have hwo : WO [(r3, .room), (i2, .cells [.int .i64 (1 : Int), .int .i64 (0 : Int), .str ([] : List UInt8), .sl 2 (List.map c_T_scan_Pair ([] : List T_scan_Pair)) r3, .str ([] : List UInt8), .int .i64 (0 : Int)]), (i1, .cells [.int .i64 (0 : Int), .int .i64 (0 : Int), .str ([] : List UInt8), .snil, .str ([] : List UInt8), .int .i64 (0 : Int)])] [(r3, .room), (i2, .cells [.int .i64 (1 : Int), .int .i64 (0 : Int), .str ([] : List UInt8), .sl 2 (List.map c_T_scan_Pair ([] : List T_scan_Pair)) r3, .str ([] : List UInt8), .int .i64 (0 : Int)]), (i1, .cells [.int .i64 (0 : Int), .int .i64 (0 : Int), .str ([] : List UInt8), .sl 2 (List.map c_T_scan_Pair ([] : List T_scan_Pair)) 0, .str ([] : List UInt8), .int .i64 (0 : Int)])] := (.keep (.keep (.weak (.cons (.refl _) (.cons (.refl _) (.cons (.refl _) (.cons (.nil _) (.cons (.refl _) (.cons (.refl _) (.nil))))))) .nil)))
   exact ⟨r3, hr3, (hwo.spec ok).1, WS.mk' (.cons (.refl _) (.cons (.refl _) (.cons (.refl _) (.cons (.refl _) (.cons (.refl _) (.cons (.refl _) .nil)))))) ok hwo⟩
  ·rintro G101 hG102 rec103 ⟨a85, a86, a87, a88, a89, a90, a91, a92, a93, a94, a96, a97, a98, a99, a100⟩ s' ih104 hF ⟨g95, hg95, ok, hws⟩
   refine WP_ws hws ?_
   clear hws s'
   rw [F_lecternref03_declaration_l0] at hF
   refine Zqch ?_
   refine Zqc0 ?_
   refine C_if rfl hF (fun hb105 hF => ?_) fun hb105 hF => ?_
   ·refine Zqal ?_
    refine C_join hF (fun (v : (List T_scan_Pair) × Int × Bool) s' => match v with | (a128, a130, a131) => ∃ g129 : Nat, g129 ≠ 0 ∧ OK h [(g129, .room), (i2, .cells [.int .i64 a91, .int .i64 a92, .str a93, .sl 2 (List.map c_T_scan_Pair a128) g129, .str a96, .int .i64 a97]), (i1, .cells [.int .i64 a85, .int .i64 a86, .str a87, .sl 2 (List.map c_T_scan_Pair a88) 0, .str a89, .int .i64 a90])] ∧ WS s' ⟨mkSl 86 [(0, .str p0), (2, .ptr i1 0), (5, .ptr i2 0), (6, .int .i64 a130), (7, .bool a131), (8, .int .i64 a100)], Hp h [(g129, .room), (i2, .cells [.int .i64 a91, .int .i64 a92, .str a93, .sl 2 (List.map c_T_scan_Pair a128) g129, .str a96, .int .i64 a97]), (i1, .cells [.int .i64 a85, .int .i64 a86, .str a87, .sl 2 (List.map c_T_scan_Pair a88) 0, .str a89, .int .i64 a90])]⟩) (fun J132 hF => ?_) ?_
    ·refine Zqaw ?_
     refine Zqb1 ?_
     refine S_bld (v := .agg (List.map D.str ([([118, 101, 114, 115, 105, 111, 110] : List UInt8), ([101, 110, 99, 111, 100, 105, 110, 103] : List UInt8), ([115, 116, 97, 110, 100, 97, 108, 111, 110, 101] : List UInt8)] : List (List UInt8)))) (b_arr ty_zc_88 ty_pl_88 ty_ar_88 ty_sz_9 rfl) ?_
     refine Zqah ?_
     refine S_ixN (g := D.str) rfl rfl ty_ar_88 ty_sz_9 ty_ag_9 hF (fun x133 _ hF => ?_)
     refine Zqe4 ?_
     refine Zqct ?_
     refine cl (F_lecternref03_White_ok _ hF fun x134 _ hF => ?_)
     refine Zqb5 ?_
     refine Zqd5 ?_
     refine Zqbg ?_
     refine Zqam ?_
     refine S_twoJ 5 32 hF (fun J136 hb135 hF => ?_) (fun J136 hb135 hF => ?_) (fun v137 hF => ?_)
     ·refine Zqef ?_
      refine Zqcr ?_
      refine cl (F_lecternref03_Stands_ok _ hF fun x138 _ hF => ?_)
      refine Zqci ?_
      exact tw
     ·refine Zqev ?_
      exact tw
     ·refine Zqaa ?_
      refine C_if rfl hF (fun hb139 hF => ?_) fun hb139 hF => ?_
      ·refine Zqct ?_
       refine Zqe0 ?_
       refine cl (F_lecternref03_value_ok _ hF fun x140 _ hF => ?_)
       refine Zqfk ?_
       refine Zqdu ?_
       refine Zqen ?_
       refine S_twoJ 5 49 hF (fun J142 hb141 hF => ?_) (fun J142 hb141 hF => ?_) (fun v143 hF => ?_)
       ·refine Zqf6 ?_
        exact tw
       ·refine Zqce ?_
        refine Zqcr ?_
        refine cl (F_lecternref03_allowed_ok _ hF fun x144 _ hF => ?_)
        refine Zqfm ?_
        exact tw
       ·refine Zqaa ?_
        refine C_if rfl hF (fun hb145 hF => ?_) fun hb145 hF => ?_
        ·refine Zqb1 ?_
         refine S_bld (v := .agg [.int .i64 (0 : Int), .int .i64 (0 : Int), .str ([] : List UInt8), .snil, .str ([] : List UInt8), .int .i64 (0 : Int)]) (b_st ty_zc_37 ty_pl_37 rfl) ?_
         refine S_one 50 (v := .agg (c_T_lecternref03_Token (⟨(0 : Int), (0 : Int), ([] : List UInt8), ([] : List T_scan_Pair), ([] : List UInt8), (0 : Int)⟩ : T_lecternref03_Token))) (.aggC (.cons (.refl _) (.cons (.refl _) (.cons (.refl _) (.cons (.nil _) (.cons (.refl _) (.cons (.refl _) (.nil)))))))) ?_
         refine S_st (j := 2) (cs' := [.int .i64 (⟨(0 : Int), (0 : Int), ([] : List UInt8), ([] : List T_scan_Pair), ([] : List UInt8), (0 : Int)⟩ : T_lecternref03_Token).Kind, .int .i64 (⟨(0 : Int), (0 : Int), ([] : List UInt8), ([] : List T_scan_Pair), ([] : List UInt8), (0 : Int)⟩ : T_lecternref03_Token).At, .str (⟨(0 : Int), (0 : Int), ([] : List UInt8), ([] : List T_scan_Pair), ([] : List UInt8), (0 : Int)⟩ : T_lecternref03_Token).Name, .sl 2 (List.map c_T_scan_Pair (⟨(0 : Int), (0 : Int), ([] : List UInt8), ([] : List T_scan_Pair), ([] : List UInt8), (0 : Int)⟩ : T_lecternref03_Token).Pairs) 0, .str (⟨(0 : Int), (0 : Int), ([] : List UInt8), ([] : List T_scan_Pair), ([] : List UInt8), (0 : Int)⟩ : T_lecternref03_Token).Text, .int .i64 (⟨(0 : Int), (0 : Int), ([] : List UInt8), ([] : List T_scan_Pair), ([] : List UInt8), (0 : Int)⟩ : T_lecternref03_Token).Refs]) ok rfl rfl rfl hi1 rfl ty_sz_37 rfl rfl (fun ok => ?_)
         refine Zqcf ?_
         replace hF := hG102 _ (F_some hF)
         refine xr ?_
         refine C_ret (fn := Tryz.f36) rfl (.cell rfl (ld_ptr (j := 2) ok rfl hi1 (p_agg (vs := [.int .i64 (⟨(0 : Int), (0 : Int), ([] : List UInt8), ([] : List T_scan_Pair), ([] : List UInt8), (0 : Int)⟩ : T_lecternref03_Token).Kind, .int .i64 (⟨(0 : Int), (0 : Int), ([] : List UInt8), ([] : List T_scan_Pair), ([] : List UInt8), (0 : Int)⟩ : T_lecternref03_Token).At, .str (⟨(0 : Int), (0 : Int), ([] : List UInt8), ([] : List T_scan_Pair), ([] : List UInt8), (0 : Int)⟩ : T_lecternref03_Token).Name, .sl 2 (List.map c_T_scan_Pair (⟨(0 : Int), (0 : Int), ([] : List UInt8), ([] : List T_scan_Pair), ([] : List UInt8), (0 : Int)⟩ : T_lecternref03_Token).Pairs) 0, .str (⟨(0 : Int), (0 : Int), ([] : List UInt8), ([] : List T_scan_Pair), ([] : List UInt8), (0 : Int)⟩ : T_lecternref03_Token).Text, .int .i64 (⟨(0 : Int), (0 : Int), ([] : List UInt8), ([] : List T_scan_Pair), ([] : List UInt8), (0 : Int)⟩ : T_lecternref03_Token).Refs]) ty_ag_37 ty_sz_37 rfl rfl)) (.tmp (v := .int .i64 (0 : Int)) rfl (.tmp (v := .int .i64 (23 : Int)) rfl .nil))) ?_
         exact ⟨_, _, (.tupC (.cons (.aggC (.cons (.refl _) (.cons (.refl _) (.cons (.refl _) (.cons (.refl _) (.cons (.refl _) (.cons (.refl _) (.nil)))))))) (.cons (.refl _) (.cons (.refl _) (.nil))))), ok.wh, _, F_some hF, rfl, rfl⟩
        ·refine Zqc2 ?_
         refine C_reg (mdl [(57, 2)]) ?_
         refine Zqbq ?_
         refine Zqbz ?_
         refine Zqak ?_
         refine Zqak ?_
         refine S_bld (v := .agg (c_T_scan_Pair (⟨x133, x140.1⟩ : T_scan_Pair))) (b_st ty_zc_57 ty_pl_57 rfl) ?_
         refine S_lit0 (cs := [.str (⟨x133, x140.1⟩ : T_scan_Pair).Name, .str (⟨x133, x140.1⟩ : T_scan_Pair).Value]) (es := (List.map c_T_scan_Pair [(⟨x133, x140.1⟩ : T_scan_Pair)])) rfl ty_el_35 rfl (by kernel_rfl) (by kernel_rfl) ?_
         refine S_app (j := 0) ok rfl rfl rfl rfl hg95 ty_el_35 ty_ni_35 hF ?_
         intro r146 hr146 ok hF
         refine Zqbq ?_
         refine S_st (j := 1) (cs' := [.int .i64 a91, .int .i64 a92, .str a93, .sl 2 (List.map c_T_scan_Pair (a94 ++ [(⟨x133, x140.1⟩ : T_scan_Pair)])) r146, .str a96, .int .i64 a97]) ok rfl rfl rfl hi2 rfl ty_sz_35 rfl rfl (fun ok => ?_)
         refine Zqaa ?_
         refine Zqe3 ?_
         refine Zqam ?_
         refine S_twoJ 8 68 hF (fun J148 hb147 hF => ?_) (fun J148 hb147 hF => ?_) (fun v149 hF => ?_)
         ·refine Zqdz ?_
          refine Zqcg ?_
          refine Zqee ?_
          exact tw
         ·refine Zqda ?_
          refine Zqdp ?_
          refine S_twoJ 4 67 hF (fun J151 hb150 hF => ?_) (fun J151 hb150 hF => ?_) (fun v152 hF => ?_)
          ·refine Zqc1 ?_
           refine cl (F_lecternref03_small_ok _ hF fun x153 _ hF => ?_)
           refine Zqb4 ?_
           refine Zqbp ?_
           refine Zqdv ?_
           exact tw
          ·refine Zqcz ?_
           refine Zqdq ?_
           exact tw
          ·refine Zqb9 ?_
           exact tw
         ·refine Zqcb ?_
          refine Zqdj ?_
          refine Zqb5 ?_
          exact ⟨((a94 ++ [(⟨x133, x140.1⟩ : T_scan_Pair)]), x140.2, v149), hF, r146, hr146, oy ok, wy ok⟩
      ·refine Zqb7 ?_
       refine Zqdy ?_
       refine C_if rfl hF (fun hb154 hF => ?_) fun hb154 hF => ?_
       ·refine Zqb1 ?_
        refine S_bld (v := .agg [.int .i64 (0 : Int), .int .i64 (0 : Int), .str ([] : List UInt8), .snil, .str ([] : List UInt8), .int .i64 (0 : Int)]) (b_st ty_zc_37 ty_pl_37 rfl) ?_
        refine S_one 72 (v := .agg (c_T_lecternref03_Token (⟨(0 : Int), (0 : Int), ([] : List UInt8), ([] : List T_scan_Pair), ([] : List UInt8), (0 : Int)⟩ : T_lecternref03_Token))) (.aggC (.cons (.refl _) (.cons (.refl _) (.cons (.refl _) (.cons (.nil _) (.cons (.refl _) (.cons (.refl _) (.nil)))))))) ?_
        refine S_st (j := 2) (cs' := [.int .i64 (⟨(0 : Int), (0 : Int), ([] : List UInt8), ([] : List T_scan_Pair), ([] : List UInt8), (0 : Int)⟩ : T_lecternref03_Token).Kind, .int .i64 (⟨(0 : Int), (0 : Int), ([] : List UInt8), ([] : List T_scan_Pair), ([] : List UInt8), (0 : Int)⟩ : T_lecternref03_Token).At, .str (⟨(0 : Int), (0 : Int), ([] : List UInt8), ([] : List T_scan_Pair), ([] : List UInt8), (0 : Int)⟩ : T_lecternref03_Token).Name, .sl 2 (List.map c_T_scan_Pair (⟨(0 : Int), (0 : Int), ([] : List UInt8), ([] : List T_scan_Pair), ([] : List UInt8), (0 : Int)⟩ : T_lecternref03_Token).Pairs) 0, .str (⟨(0 : Int), (0 : Int), ([] : List UInt8), ([] : List T_scan_Pair), ([] : List UInt8), (0 : Int)⟩ : T_lecternref03_Token).Text, .int .i64 (⟨(0 : Int), (0 : Int), ([] : List UInt8), ([] : List T_scan_Pair), ([] : List UInt8), (0 : Int)⟩ : T_lecternref03_Token).Refs]) ok rfl rfl rfl hi1 rfl ty_sz_37 rfl rfl (fun ok => ?_)
        refine Zqcf ?_
        replace hF := hG102 _ (F_some hF)
        refine xr ?_
        refine C_ret (fn := Tryz.f36) rfl (.cell rfl (ld_ptr (j := 2) ok rfl hi1 (p_agg (vs := [.int .i64 (⟨(0 : Int), (0 : Int), ([] : List UInt8), ([] : List T_scan_Pair), ([] : List UInt8), (0 : Int)⟩ : T_lecternref03_Token).Kind, .int .i64 (⟨(0 : Int), (0 : Int), ([] : List UInt8), ([] : List T_scan_Pair), ([] : List UInt8), (0 : Int)⟩ : T_lecternref03_Token).At, .str (⟨(0 : Int), (0 : Int), ([] : List UInt8), ([] : List T_scan_Pair), ([] : List UInt8), (0 : Int)⟩ : T_lecternref03_Token).Name, .sl 2 (List.map c_T_scan_Pair (⟨(0 : Int), (0 : Int), ([] : List UInt8), ([] : List T_scan_Pair), ([] : List UInt8), (0 : Int)⟩ : T_lecternref03_Token).Pairs) 0, .str (⟨(0 : Int), (0 : Int), ([] : List UInt8), ([] : List T_scan_Pair), ([] : List UInt8), (0 : Int)⟩ : T_lecternref03_Token).Text, .int .i64 (⟨(0 : Int), (0 : Int), ([] : List UInt8), ([] : List T_scan_Pair), ([] : List UInt8), (0 : Int)⟩ : T_lecternref03_Token).Refs]) ty_ag_37 ty_sz_37 rfl rfl)) (.tmp (v := .int .i64 (0 : Int)) rfl (.tmp (v := .int .i64 (23 : Int)) rfl .nil))) ?_
        exact ⟨_, _, (.tupC (.cons (.aggC (.cons (.refl _) (.cons (.refl _) (.cons (.refl _) (.cons (.refl _) (.cons (.refl _) (.cons (.refl _) (.nil)))))))) (.cons (.refl _) (.cons (.refl _) (.nil))))), ok.wh, _, F_some hF, rfl, rfl⟩
       ·refine Zqal ?_
        exact ⟨(a94, a98, a99), hF, g95, hg95, oy ok, wy ok⟩
    ·rintro ⟨a128, a130, a131⟩ s' hF ⟨g129, hg129, ok, hws⟩
     refine WP_ws hws ?_
     clear hws s'
     refine Zqd2 ?_
     refine ih104 (a85, a86, a87, a88, a89, a90, a91, a92, a93, a128, a96, a97, a130, a131, (IntKind.wrap .i64 (a100 + (1 : Int)))) _ hF ?_
     exact ⟨g129, hg129, oy ok, wy ok⟩
   ·refine Zqcs ?_
    replace hF := hG102 _ (F_some hF)
    exact ⟨(a85, a86, a87, a88, a89, a90, a91, a92, a93, a94, a96, a97, a98, a99), hF, g95, hg95, oy ok, wy ok⟩
 ·rintro ⟨a69, a70, a71, a72, a73, a74, a75, a76, a77, a78, a80, a81, a82, a83⟩ s' hF ⟨g79, hg79, ok, hws⟩
  refine WP_ws hws ?_
  clear hws s'
  refine Zqct ?_
  refine cl (F_lecternref03_White_ok _ hF fun x155 _ hF => ?_)
  refine Zqeu ?_
  refine Zqct ?_
  refine cl (F_lecternref03_Stands_ok _ hF fun x156 _ hF => ?_)
  refine Zqei ?_
  refine C_if rfl hF (fun hb157 hF => ?_) fun hb157 hF => ?_
  ·refine Zqb1 ?_
   refine S_bld (v := .agg [.int .i64 (0 : Int), .int .i64 (0 : Int), .str ([] : List UInt8), .snil, .str ([] : List UInt8), .int .i64 (0 : Int)]) (b_st ty_zc_37 ty_pl_37 rfl) ?_
   refine S_one 80 (v := .agg (c_T_lecternref03_Token (⟨(0 : Int), (0 : Int), ([] : List UInt8), ([] : List T_scan_Pair), ([] : List UInt8), (0 : Int)⟩ : T_lecternref03_Token))) (.aggC (.cons (.refl _) (.cons (.refl _) (.cons (.refl _) (.cons (.nil _) (.cons (.refl _) (.cons (.refl _) (.nil)))))))) ?_
   refine S_st (j := 2) (cs' := [.int .i64 (⟨(0 : Int), (0 : Int), ([] : List UInt8), ([] : List T_scan_Pair), ([] : List UInt8), (0 : Int)⟩ : T_lecternref03_Token).Kind, .int .i64 (⟨(0 : Int), (0 : Int), ([] : List UInt8), ([] : List T_scan_Pair), ([] : List UInt8), (0 : Int)⟩ : T_lecternref03_Token).At, .str (⟨(0 : Int), (0 : Int), ([] : List UInt8), ([] : List T_scan_Pair), ([] : List UInt8), (0 : Int)⟩ : T_lecternref03_Token).Name, .sl 2 (List.map c_T_scan_Pair (⟨(0 : Int), (0 : Int), ([] : List UInt8), ([] : List T_scan_Pair), ([] : List UInt8), (0 : Int)⟩ : T_lecternref03_Token).Pairs) 0, .str (⟨(0 : Int), (0 : Int), ([] : List UInt8), ([] : List T_scan_Pair), ([] : List UInt8), (0 : Int)⟩ : T_lecternref03_Token).Text, .int .i64 (⟨(0 : Int), (0 : Int), ([] : List UInt8), ([] : List T_scan_Pair), ([] : List UInt8), (0 : Int)⟩ : T_lecternref03_Token).Refs]) ok rfl rfl rfl hi1 rfl ty_sz_37 rfl rfl (fun ok => ?_)
   refine Zqcf ?_
   refine xr ?_
   refine C_ret (fn := Tryz.f36) rfl (.cell rfl (ld_ptr (j := 2) ok rfl hi1 (p_agg (vs := [.int .i64 (⟨(0 : Int), (0 : Int), ([] : List UInt8), ([] : List T_scan_Pair), ([] : List UInt8), (0 : Int)⟩ : T_lecternref03_Token).Kind, .int .i64 (⟨(0 : Int), (0 : Int), ([] : List UInt8), ([] : List T_scan_Pair), ([] : List UInt8), (0 : Int)⟩ : T_lecternref03_Token).At, .str (⟨(0 : Int), (0 : Int), ([] : List UInt8), ([] : List T_scan_Pair), ([] : List UInt8), (0 : Int)⟩ : T_lecternref03_Token).Name, .sl 2 (List.map c_T_scan_Pair (⟨(0 : Int), (0 : Int), ([] : List UInt8), ([] : List T_scan_Pair), ([] : List UInt8), (0 : Int)⟩ : T_lecternref03_Token).Pairs) 0, .str (⟨(0 : Int), (0 : Int), ([] : List UInt8), ([] : List T_scan_Pair), ([] : List UInt8), (0 : Int)⟩ : T_lecternref03_Token).Text, .int .i64 (⟨(0 : Int), (0 : Int), ([] : List UInt8), ([] : List T_scan_Pair), ([] : List UInt8), (0 : Int)⟩ : T_lecternref03_Token).Refs]) ty_ag_37 ty_sz_37 rfl rfl)) (.tmp (v := .int .i64 (0 : Int)) rfl (.tmp (v := .int .i64 (23 : Int)) rfl .nil))) ?_
   exact ⟨_, _, (.tupC (.cons (.aggC (.cons (.refl _) (.cons (.refl _) (.cons (.refl _) (.cons (.refl _) (.cons (.refl _) (.cons (.refl _) (.nil)))))))) (.cons (.refl _) (.cons (.refl _) (.nil))))), ok.wh, _, F_some hF, rfl, rfl⟩
  ·refine Zqc2 ?_
   refine Zqb1 ?_
   refine Zqc5 ?_
   refine C_if rfl hF (fun hb158 hF => ?_) fun hb158 hF => ?_
   ·refine Zqb1 ?_
    refine S_bld (v := .agg [.int .i64 (0 : Int), .int .i64 (0 : Int), .str ([] : List UInt8), .snil, .str ([] : List UInt8), .int .i64 (0 : Int)]) (b_st ty_zc_37 ty_pl_37 rfl) ?_
    refine S_one 82 (v := .agg (c_T_lecternref03_Token (⟨(0 : Int), (0 : Int), ([] : List UInt8), ([] : List T_scan_Pair), ([] : List UInt8), (0 : Int)⟩ : T_lecternref03_Token))) (.aggC (.cons (.refl _) (.cons (.refl _) (.cons (.refl _) (.cons (.nil _) (.cons (.refl _) (.cons (.refl _) (.nil)))))))) ?_
    refine S_st (j := 2) (cs' := [.int .i64 (⟨(0 : Int), (0 : Int), ([] : List UInt8), ([] : List T_scan_Pair), ([] : List UInt8), (0 : Int)⟩ : T_lecternref03_Token).Kind, .int .i64 (⟨(0 : Int), (0 : Int), ([] : List UInt8), ([] : List T_scan_Pair), ([] : List UInt8), (0 : Int)⟩ : T_lecternref03_Token).At, .str (⟨(0 : Int), (0 : Int), ([] : List UInt8), ([] : List T_scan_Pair), ([] : List UInt8), (0 : Int)⟩ : T_lecternref03_Token).Name, .sl 2 (List.map c_T_scan_Pair (⟨(0 : Int), (0 : Int), ([] : List UInt8), ([] : List T_scan_Pair), ([] : List UInt8), (0 : Int)⟩ : T_lecternref03_Token).Pairs) 0, .str (⟨(0 : Int), (0 : Int), ([] : List UInt8), ([] : List T_scan_Pair), ([] : List UInt8), (0 : Int)⟩ : T_lecternref03_Token).Text, .int .i64 (⟨(0 : Int), (0 : Int), ([] : List UInt8), ([] : List T_scan_Pair), ([] : List UInt8), (0 : Int)⟩ : T_lecternref03_Token).Refs]) ok rfl rfl rfl hi1 rfl ty_sz_37 rfl rfl (fun ok => ?_)
    refine Zqcf ?_
    refine xr ?_
    refine C_ret (fn := Tryz.f36) rfl (.cell rfl (ld_ptr (j := 2) ok rfl hi1 (p_agg (vs := [.int .i64 (⟨(0 : Int), (0 : Int), ([] : List UInt8), ([] : List T_scan_Pair), ([] : List UInt8), (0 : Int)⟩ : T_lecternref03_Token).Kind, .int .i64 (⟨(0 : Int), (0 : Int), ([] : List UInt8), ([] : List T_scan_Pair), ([] : List UInt8), (0 : Int)⟩ : T_lecternref03_Token).At, .str (⟨(0 : Int), (0 : Int), ([] : List UInt8), ([] : List T_scan_Pair), ([] : List UInt8), (0 : Int)⟩ : T_lecternref03_Token).Name, .sl 2 (List.map c_T_scan_Pair (⟨(0 : Int), (0 : Int), ([] : List UInt8), ([] : List T_scan_Pair), ([] : List UInt8), (0 : Int)⟩ : T_lecternref03_Token).Pairs) 0, .str (⟨(0 : Int), (0 : Int), ([] : List UInt8), ([] : List T_scan_Pair), ([] : List UInt8), (0 : Int)⟩ : T_lecternref03_Token).Text, .int .i64 (⟨(0 : Int), (0 : Int), ([] : List UInt8), ([] : List T_scan_Pair), ([] : List UInt8), (0 : Int)⟩ : T_lecternref03_Token).Refs]) ty_ag_37 ty_sz_37 rfl rfl)) (.tmp (v := .int .i64 (0 : Int)) rfl (.tmp (v := .int .i64 (25 : Int)) rfl .nil))) ?_
    exact ⟨_, _, (.tupC (.cons (.aggC (.cons (.refl _) (.cons (.refl _) (.cons (.refl _) (.cons (.refl _) (.cons (.refl _) (.cons (.refl _) (.nil)))))))) (.cons (.refl _) (.cons (.refl _) (.nil))))), ok.wh, _, F_some hF, rfl, rfl⟩
   ·refine Zqal ?_
    refine Zqb1 ?_
    refine S_ldP (j := 1) ok rfl rfl rfl hi2 (p_agg (vs := [.int .i64 a75, .int .i64 a76, .str a77, .sl 2 (List.map c_T_scan_Pair a78) g79, .str a80, .int .i64 a81]) ty_ag_37 ty_sz_37 rfl rfl) ?_
    refine S_one 83 (v := .agg (c_T_lecternref03_Token (⟨a75, a76, a77, a78, a80, a81⟩ : T_lecternref03_Token))) (.aggC (.cons (.refl _) (.cons (.refl _) (.cons (.refl _) (.cons (.zero _ _ _) (.cons (.refl _) (.cons (.refl _) (.nil)))))))) ?_
    refine Zqcm ?_
    refine S_st (j := 2) (cs' := [.int .i64 (⟨a75, a76, a77, a78, a80, a81⟩ : T_lecternref03_Token).Kind, .int .i64 (⟨a75, a76, a77, a78, a80, a81⟩ : T_lecternref03_Token).At, .str (⟨a75, a76, a77, a78, a80, a81⟩ : T_lecternref03_Token).Name, .sl 2 (List.map c_T_scan_Pair (⟨a75, a76, a77, a78, a80, a81⟩ : T_lecternref03_Token).Pairs) 0, .str (⟨a75, a76, a77, a78, a80, a81⟩ : T_lecternref03_Token).Text, .int .i64 (⟨a75, a76, a77, a78, a80, a81⟩ : T_lecternref03_Token).Refs]) ok rfl rfl rfl hi1 rfl ty_sz_37 rfl rfl (fun ok => ?_)
    refine Zqcf ?_
    refine xr ?_
    refine C_ret (fn := Tryz.f36) rfl (.cell rfl (ld_ptr (j := 2) ok rfl hi1 (p_agg (vs := [.int .i64 (⟨a75, a76, a77, a78, a80, a81⟩ : T_lecternref03_Token).Kind, .int .i64 (⟨a75, a76, a77, a78, a80, a81⟩ : T_lecternref03_Token).At, .str (⟨a75, a76, a77, a78, a80, a81⟩ : T_lecternref03_Token).Name, .sl 2 (List.map c_T_scan_Pair (⟨a75, a76, a77, a78, a80, a81⟩ : T_lecternref03_Token).Pairs) 0, .str (⟨a75, a76, a77, a78, a80, a81⟩ : T_lecternref03_Token).Text, .int .i64 (⟨a75, a76, a77, a78, a80, a81⟩ : T_lecternref03_Token).Refs]) ty_ag_37 ty_sz_37 rfl rfl)) (.tmp (v := .int .i64 (IntKind.wrap .i64 (x155 + (2 : Int)))) rfl (.tmp (v := .int .i64 (0 : Int)) rfl .nil))) ?_
    exact ⟨_, _, (.tupC (.cons (.aggC (.cons (.refl _) (.cons (.refl _) (.cons (.refl _) (.cons (.refl _) (.cons (.refl _) (.cons (.refl _) (.nil)))))))) (.cons (.refl _) (.cons (.refl _) (.nil))))), ok.wh, _, F_some hF, rfl, rfl⟩
theorem F_lecternref03_declaration_ok {β : Type} {f : T_lecternref03_Token × Int × Int → Option β} {G : β → Prop} {R : D → Heap → Prop} {p0 : List UInt8} (h : Heap) (hF : OptP ((F_lecternref03_declaration p0).bind f) G) (hk : ∀ r, F_lecternref03_declaration p0 = some r → OptP (f r) G → R (.tup [.agg (c_T_lecternref03_Token r.1), .int .i64 r.2.1, .int .i64 r.2.2]) h) : CallsA Tryz.prog 36 [.str p0] h R := by
 obtain ⟨r0, hr, hF⟩ := F_bind hF
 refine (F_lecternref03_declaration_w (G := fun r => r = r0) p0 h ⟨r0, hr, rfl⟩).mono ?_
 rintro _ _ ⟨r, rfl, rfl, rfl⟩
 exact hk _ hr hF
theorem F_lecternref01_Start_w (p0 : Int) {G : Bool → Prop} (h : Heap) (hF : OptP (F_lecternref01_Start p0) G) : CallsA Tryz.prog 62 [.int .i64 p0] h fun d h' => ∃ r, G r ∧ d = .bool r ∧ h' = h := by
 refine CallsA.ret ?_
 refine C_body Tryz.func62 rfl en_62 Tryz.ntmps62 rfl (fun ok => ?_)
 rw [F_lecternref01_Start] at hF
 refine Zqdb ?_
 refine Zqab ?_
 refine Zqaw ?_
 refine C_join hF (fun (a5 : Bool) s' => OK h [] ∧ WS s' ⟨mkSl 83 [(0, .int .i64 p0), (3, .bool a5)], Hp h []⟩) (fun J6 hF => ?_) ?_
 ·refine Zqd3 ?_
  refine S_two (b := (decide ((65 : Int) ≤ p0))) 3 9 (.bool ((decide ((65 : Int) ≤ p0)) && (decide (p0 ≤ (90 : Int))))) (fun hb7 => ?_) (fun hb7 => ?_) ?_
  ·refine Zqdm ?_
   exact th
  ·refine Zqcv ?_
   exact th
  refine Zqcb ?_
  refine C_if rfl hF (fun hb8 hF => ?_) fun hb8 hF => ?_
  ·refine Zqal ?_
   exact ⟨((decide ((65 : Int) ≤ p0)) && (decide (p0 ≤ (90 : Int)))), hF, oy ok, wy ok⟩
  ·refine Zqb7 ?_
   refine Zqf5 ?_
   refine C_if rfl hF (fun hb9 hF => ?_) fun hb9 hF => ?_
   ·refine Zqal ?_
    exact ⟨(p0 == (95 : Int)), hF, oy ok, wy ok⟩
   ·refine Zqdj ?_
    refine Zqc6 ?_
    refine S_two (b := (decide ((97 : Int) ≤ p0))) 3 17 (.bool ((decide ((97 : Int) ≤ p0)) && (decide (p0 ≤ (122 : Int))))) (fun hb10 => ?_) (fun hb10 => ?_) ?_
    ·refine Zqdm ?_
     exact th
    ·refine Zqcv ?_
     exact th
    refine Zqcb ?_
    exact ⟨((decide ((97 : Int) ≤ p0)) && (decide (p0 ≤ (122 : Int)))), hF, oy ok, wy ok⟩
 ·rintro a5 s' hF ⟨ok, hws⟩
  refine WP_ws hws ?_
  clear hws s'
  refine C_if rfl hF (fun hb11 hF => ?_) fun hb11 hF => ?_
  ·refine Zqdc ?_
   exact rt
  ·refine Zqd3 ?_
   refine S_two (b := (decide ((192 : Int) ≤ p0))) 3 24 (.bool ((decide ((192 : Int) ≤ p0)) && (decide (p0 ≤ (767 : Int))))) (fun hb12 => ?_) (fun hb12 => ?_) ?_
   ·refine Zqdm ?_
    exact th
   ·refine Zqcv ?_
    exact th
   refine Zqcb ?_
   refine C_if rfl hF (fun hb13 hF => ?_) fun hb13 hF => ?_
   ·refine Zqb7 ?_
    refine Zqgg ?_
    refine S_two (b := (p0 != (215 : Int))) 3 30 (.bool ((p0 != (215 : Int)) && (p0 != (247 : Int)))) (fun hb14 => ?_) (fun hb14 => ?_) ?_
    ·refine Zqce ?_
     refine Zqa1 ?_
     refine Zqci ?_
     exact th
    ·refine Zqcv ?_
     exact th
    refine Zqcl ?_
    exact rt
   ·refine Zqd3 ?_
    refine S_two (b := (decide ((880 : Int) ≤ p0))) 3 37 (.bool ((decide ((880 : Int) ≤ p0)) && (decide (p0 ≤ (8191 : Int))))) (fun hb15 => ?_) (fun hb15 => ?_) ?_
    ·refine Zqdm ?_
     exact th
    ·refine Zqcv ?_
     exact th
    refine Zqcb ?_
    refine C_if rfl hF (fun hb16 hF => ?_) fun hb16 hF => ?_
    ·refine Zqb7 ?_
     refine Zqa1 ?_
     refine Zqcl ?_
     exact rt
    ·refine C_join hF (fun (a18 : Bool) s' => OK h [] ∧ WS s' ⟨mkSl 83 [(0, .int .i64 p0), (40, .bool a18)], Hp h []⟩) (fun J19 hF => ?_) ?_
     ·refine Zqb7 ?_
      refine Zqf5 ?_
      refine C_if rfl hF (fun hb20 hF => ?_) fun hb20 hF => ?_
      ·refine Zqal ?_
       exact ⟨(p0 == (8204 : Int)), hF, oy ok, wy ok⟩
      ·refine Zqdj ?_
       refine Zqf5 ?_
       exact ⟨(p0 == (8205 : Int)), hF, oy ok, wy ok⟩
     ·rintro a18 s' hF ⟨ok, hws⟩
      refine WP_ws hws ?_
      clear hws s'
      refine C_if rfl hF (fun hb21 hF => ?_) fun hb21 hF => ?_
      ·refine Zqdc ?_
       exact rt
      ·refine C_join hF (fun (a27 : Bool) s' => OK h [] ∧ WS s' ⟨mkSl 83 [(0, .int .i64 p0), (45, .bool a27)], Hp h []⟩) (fun J28 hF => ?_) ?_
       ·refine Zqd3 ?_
        refine S_two (b := (decide ((8304 : Int) ≤ p0))) 3 51 (.bool ((decide ((8304 : Int) ≤ p0)) && (decide (p0 ≤ (8591 : Int))))) (fun hb29 => ?_) (fun hb29 => ?_) ?_
        ·refine Zqdm ?_
         exact th
        ·refine Zqcv ?_
         exact th
        refine Zqcb ?_
        refine C_if rfl hF (fun hb30 hF => ?_) fun hb30 hF => ?_
        ·refine Zqal ?_
         exact ⟨((decide ((8304 : Int) ≤ p0)) && (decide (p0 ≤ (8591 : Int)))), hF, oy ok, wy ok⟩
        ·refine Zqd3 ?_
         refine S_two (b := (decide ((11264 : Int) ≤ p0))) 3 57 (.bool ((decide ((11264 : Int) ≤ p0)) && (decide (p0 ≤ (12271 : Int))))) (fun hb31 => ?_) (fun hb31 => ?_) ?_
         ·refine Zqdm ?_
          exact th
         ·refine Zqcv ?_
          exact th
         refine Zqcb ?_
         refine C_if rfl hF (fun hb32 hF => ?_) fun hb32 hF => ?_
         ·refine Zqal ?_
          exact ⟨((decide ((11264 : Int) ≤ p0)) && (decide (p0 ≤ (12271 : Int)))), hF, oy ok, wy ok⟩
         ·refine Zqdj ?_
          refine Zqc6 ?_
          refine S_two (b := (decide ((12289 : Int) ≤ p0))) 3 63 (.bool ((decide ((12289 : Int) ≤ p0)) && (decide (p0 ≤ (55295 : Int))))) (fun hb33 => ?_) (fun hb33 => ?_) ?_
          ·refine Zqdm ?_
           exact th
          ·refine Zqcv ?_
           exact th
          refine Zqcb ?_
          exact ⟨((decide ((12289 : Int) ≤ p0)) && (decide (p0 ≤ (55295 : Int)))), hF, oy ok, wy ok⟩
       ·rintro a27 s' hF ⟨ok, hws⟩
        refine WP_ws hws ?_
        clear hws s'
        refine C_if rfl hF (fun hb34 hF => ?_) fun hb34 hF => ?_
        ·refine Zqdc ?_
         exact rt
        ·refine Zqd3 ?_
         refine S_two (b := (decide ((63744 : Int) ≤ p0))) 3 70 (.bool ((decide ((63744 : Int) ≤ p0)) && (decide (p0 ≤ (65533 : Int))))) (fun hb35 => ?_) (fun hb35 => ?_) ?_
         ·refine Zqdm ?_
          exact th
         ·refine Zqcv ?_
          exact th
         refine Zqcb ?_
         refine C_if rfl hF (fun hb36 hF => ?_) fun hb36 hF => ?_
         ·refine Zqb7 ?_
          refine Zqen ?_
          refine S_two (b := (decide (p0 < (64976 : Int)))) 3 76 (.bool ((decide (p0 < (64976 : Int))) || (decide ((65008 : Int) ≤ p0)))) (fun hb37 => ?_) (fun hb37 => ?_) ?_
          ·refine Zqc9 ?_
           exact th
          ·refine Zqex ?_
           refine Zqcp ?_
           exact th
          refine Zqcl ?_
          exact rt
         ·refine Zqal ?_
          refine Zqd3 ?_
          refine S_two (b := (decide ((65536 : Int) ≤ p0))) 3 82 (.bool ((decide ((65536 : Int) ≤ p0)) && (decide (p0 ≤ (983039 : Int))))) (fun hb38 => ?_) (fun hb38 => ?_) ?_
          ·refine Zqdm ?_
           exact th
          ·refine Zqcv ?_
           exact th
          refine Zqcl ?_
          exact rt
theorem F_lecternref01_Start_ok {β : Type} {f : Bool → Option β} {G : β → Prop} {R : D → Heap → Prop} {p0 : Int} (h : Heap) (hF : OptP ((F_lecternref01_Start p0).bind f) G) (hk : ∀ r, F_lecternref01_Start p0 = some r → OptP (f r) G → R (.bool r) h) : CallsA Tryz.prog 62 [.int .i64 p0] h R := by
 obtain ⟨r0, hr, hF⟩ := F_bind hF
 refine (F_lecternref01_Start_w (G := fun r => r = r0) p0 h ⟨r0, hr, rfl⟩).mono ?_
 rintro _ _ ⟨r, rfl, rfl, rfl⟩
 exact hk _ hr hF
theorem F_lecternref01_Part_w (p0 : Int) {G : Bool → Prop} (h : Heap) (hF : OptP (F_lecternref01_Part p0) G) : CallsA Tryz.prog 61 [.int .i64 p0] h fun d h' => ∃ r, G r ∧ d = .bool r ∧ h' = h := by
 refine CallsA.ret ?_
 refine C_body Tryz.func61 rfl en_61 Tryz.ntmps61 rfl (fun ok => ?_)
 rw [F_lecternref01_Part] at hF
 refine Zqdb ?_
 refine Zqb7 ?_
 refine cl (F_lecternref01_Start_ok _ hF fun x1 _ hF => ?_)
 refine Zqam ?_
 refine S_two (b := x1) 3 8 (.bool (x1 || (p0 == (45 : Int)))) (fun hb2 => ?_) (fun hb2 => ?_) ?_
 ·refine Zqc9 ?_
  exact th
 ·refine Zqd7 ?_
  exact th
 refine Zqam ?_
 refine S_two (b := (x1 || (p0 == (45 : Int)))) 3 12 (.bool ((x1 || (p0 == (45 : Int))) || (p0 == (46 : Int)))) (fun hb3 => ?_) (fun hb3 => ?_) ?_
 ·refine Zqc9 ?_
  exact th
 ·refine Zqd7 ?_
  exact th
 refine Zqam ?_
 refine S_two (b := ((x1 || (p0 == (45 : Int))) || (p0 == (46 : Int)))) 7 20 (.bool (((x1 || (p0 == (45 : Int))) || (p0 == (46 : Int))) || ((decide ((48 : Int) ≤ p0)) && (decide (p0 ≤ (57 : Int)))))) (fun hb4 => ?_) (fun hb4 => ?_) ?_
 ·refine Zqe7 ?_
  exact th
 ·refine Zqe8 ?_
  refine S_two (b := (decide ((48 : Int) ≤ p0))) 3 19 (.bool ((decide ((48 : Int) ≤ p0)) && (decide (p0 ≤ (57 : Int))))) (fun hb6 => ?_) (fun hb6 => ?_) ?_
  ·refine Zqe9 ?_
   exact th
  ·refine Zqej ?_
   exact th
  refine Zqb9 ?_
  exact th
 refine Zqam ?_
 refine S_two (b := (((x1 || (p0 == (45 : Int))) || (p0 == (46 : Int))) || ((decide ((48 : Int) ≤ p0)) && (decide (p0 ≤ (57 : Int)))))) 3 24 (.bool ((((x1 || (p0 == (45 : Int))) || (p0 == (46 : Int))) || ((decide ((48 : Int) ≤ p0)) && (decide (p0 ≤ (57 : Int))))) || (p0 == (183 : Int)))) (fun hb7 => ?_) (fun hb7 => ?_) ?_
 ·refine Zqc9 ?_
  exact th
 ·refine Zqd7 ?_
  exact th
 refine Zqam ?_
 refine S_two (b := ((((x1 || (p0 == (45 : Int))) || (p0 == (46 : Int))) || ((decide ((48 : Int) ≤ p0)) && (decide (p0 ≤ (57 : Int))))) || (p0 == (183 : Int)))) 7 32 (.bool (((((x1 || (p0 == (45 : Int))) || (p0 == (46 : Int))) || ((decide ((48 : Int) ≤ p0)) && (decide (p0 ≤ (57 : Int))))) || (p0 == (183 : Int))) || ((decide ((768 : Int) ≤ p0)) && (decide (p0 ≤ (879 : Int)))))) (fun hb8 => ?_) (fun hb8 => ?_) ?_
 ·refine Zqe7 ?_
  exact th
 ·refine Zqe8 ?_
  refine S_two (b := (decide ((768 : Int) ≤ p0))) 3 31 (.bool ((decide ((768 : Int) ≤ p0)) && (decide (p0 ≤ (879 : Int))))) (fun hb10 => ?_) (fun hb10 => ?_) ?_
  ·refine Zqe9 ?_
   exact th
  ·refine Zqej ?_
   exact th
  refine Zqb9 ?_
  exact th
 refine Zqam ?_
 refine S_two (b := (((((x1 || (p0 == (45 : Int))) || (p0 == (46 : Int))) || ((decide ((48 : Int) ≤ p0)) && (decide (p0 ≤ (57 : Int))))) || (p0 == (183 : Int))) || ((decide ((768 : Int) ≤ p0)) && (decide (p0 ≤ (879 : Int)))))) 3 36 (.bool ((((((x1 || (p0 == (45 : Int))) || (p0 == (46 : Int))) || ((decide ((48 : Int) ≤ p0)) && (decide (p0 ≤ (57 : Int))))) || (p0 == (183 : Int))) || ((decide ((768 : Int) ≤ p0)) && (decide (p0 ≤ (879 : Int))))) || (p0 == (8255 : Int)))) (fun hb11 => ?_) (fun hb11 => ?_) ?_
 ·refine Zqc9 ?_
  exact th
 ·refine Zqd7 ?_
  exact th
 refine Zqam ?_
 refine S_two (b := ((((((x1 || (p0 == (45 : Int))) || (p0 == (46 : Int))) || ((decide ((48 : Int) ≤ p0)) && (decide (p0 ≤ (57 : Int))))) || (p0 == (183 : Int))) || ((decide ((768 : Int) ≤ p0)) && (decide (p0 ≤ (879 : Int))))) || (p0 == (8255 : Int)))) 3 40 (.bool (((((((x1 || (p0 == (45 : Int))) || (p0 == (46 : Int))) || ((decide ((48 : Int) ≤ p0)) && (decide (p0 ≤ (57 : Int))))) || (p0 == (183 : Int))) || ((decide ((768 : Int) ≤ p0)) && (decide (p0 ≤ (879 : Int))))) || (p0 == (8255 : Int))) || (p0 == (8256 : Int)))) (fun hb12 => ?_) (fun hb12 => ?_) ?_
 ·refine Zqc9 ?_
  exact th
 ·refine Zqd7 ?_
  exact th
 refine Zqcl ?_
 exact rt
theorem F_lecternref01_Part_ok {β : Type} {f : Bool → Option β} {G : β → Prop} {R : D → Heap → Prop} {p0 : Int} (h : Heap) (hF : OptP ((F_lecternref01_Part p0).bind f) G) (hk : ∀ r, F_lecternref01_Part p0 = some r → OptP (f r) G → R (.bool r) h) : CallsA Tryz.prog 61 [.int .i64 p0] h R := by
 obtain ⟨r0, hr, hF⟩ := F_bind hF
 refine (F_lecternref01_Part_w (G := fun r => r = r0) p0 h ⟨r0, hr, rfl⟩).mono ?_
 rintro _ _ ⟨r, rfl, rfl, rfl⟩
 exact hk _ hr hF
theorem F_lecternref01_Name_w (p0 : List UInt8) {G : Bool → Prop} (h : Heap) (hF : OptP (F_lecternref01_Name p0) G) : CallsA Tryz.prog 60 [.str p0] h fun d h' => ∃ r, G r ∧ d = .bool r ∧ h' = h := by
 refine CallsA.ret ?_
 refine C_body Tryz.func60 rfl en_60 Tryz.ntmps60 rfl (fun ok => ?_)
 rw [F_lecternref01_Name] at hF
 refine Zqdb ?_
 refine Zqcd ?_
 refine Zqbk ?_
 refine Zqbb ?_
 refine Zqdi ?_
 refine Zqf2 ?_
 refine Zqdr ?_
 refine S_two (b := ((p0.length : Int) == (0 : Int))) 4 16 (.bool (((p0.length : Int) == (0 : Int)) || (decide ((100 : Int) < (p0.length : Int))))) (fun hb1 => ?_) (fun hb1 => ?_) ?_
 ·refine Zqfy ?_
  exact th
 ·refine Zqdh ?_
  refine Zqez ?_
  refine Zqbg ?_
  refine Zqcp ?_
  exact th
 refine Zqaa ?_
 refine C_if rfl hF (fun hb2 hF => ?_) fun hb2 hF => ?_
 ·refine Zqdc ?_
  exact rt
 ·refine Zqal ?_
  refine C_join hF (fun (_ : Unit) s' => OK h [] ∧ WS s' ⟨mkSl 46 [], Hp h []⟩) (fun J18 hF => ?_) ?_
  ·refine Zqd9 ?_
   refine C_loop (σ := Int) hF (fun (a19 : Int) s' => OK h [] ∧ WS s' ⟨mkSl 46 [(3, .sl 1 (List.map c_u8 p0) 0), (4, .int .i64 a19)], Hp h []⟩) ?_ ?_
   ·exact ⟨oy ok, wy ok⟩
   ·rintro G20 hG21 rec22 a19 s' ih23 hF ⟨ok, hws⟩
    refine WP_ws hws ?_
    clear hws s'
    rw [F_lecternref01_Name_l0] at hF
    refine Zqf8 ?_
    refine C_if rfl hF (fun hb24 hF => ?_) fun hb24 hF => ?_
    ·refine Zqea ?_
     refine Zqd8 ?_
     refine cl (F_lecternref01_Read_ok _ hF fun x25 _ hF => ?_)
     refine Zqgj ?_
     refine Zqdr ?_
     refine S_twoJ 4 33 hF (fun J27 hb26 hF => ?_) (fun J27 hb26 hF => ?_) (fun v28 hF => ?_)
     ·refine Zqfy ?_
      exact tw
     ·refine Zqce ?_
      refine cl (F_lecternref01_Part_ok _ hF fun x29 _ hF => ?_)
      refine Zqfm ?_
      exact tw
     ·refine Zqam ?_
      refine S_twoJ 8 42 hF (fun J31 hb30 hF => ?_) (fun J31 hb30 hF => ?_) (fun v32 hF => ?_)
      ·refine Zqdz ?_
       refine Zqcg ?_
       refine Zqee ?_
       exact tw
      ·refine Zqda ?_
       refine Zqdp ?_
       refine S_twoJ 4 41 hF (fun J34 hb33 hF => ?_) (fun J34 hb33 hF => ?_) (fun v35 hF => ?_)
       ·refine Zqce ?_
        refine cl (F_lecternref01_Start_ok _ hF fun x36 _ hF => ?_)
        refine Zqdl ?_
        refine Zqdv ?_
        exact tw
       ·refine Zqcz ?_
        refine Zqdq ?_
        exact tw
       ·refine Zqb9 ?_
        exact tw
      ·refine Zqaa ?_
       refine C_if rfl hF (fun hb37 hF => ?_) fun hb37 hF => ?_
       ·refine Zqdc ?_
        replace hF := hG21 _ (F_some hF)
        exact rt
       ·refine Zqfs ?_
        refine Zqdk ?_
        refine ih23 (IntKind.wrap .i64 (a19 + x25.2)) _ hF ?_
        exact ⟨oy ok, wy ok⟩
    ·refine Zqcs ?_
     replace hF := hG21 _ (F_some hF)
     exact ⟨(), hF, oy ok, wy ok⟩
  ·rintro ⟨⟩ s' hF ⟨ok, hws⟩
   refine WP_ws hws ?_
   clear hws s'
   refine Zqdc ?_
   exact rt
theorem F_lecternref01_Name_ok {β : Type} {f : Bool → Option β} {G : β → Prop} {R : D → Heap → Prop} {p0 : List UInt8} (h : Heap) (hF : OptP ((F_lecternref01_Name p0).bind f) G) (hk : ∀ r, F_lecternref01_Name p0 = some r → OptP (f r) G → R (.bool r) h) : CallsA Tryz.prog 60 [.str p0] h R := by
 obtain ⟨r0, hr, hF⟩ := F_bind hF
 refine (F_lecternref01_Name_w (G := fun r => r = r0) p0 h ⟨r0, hr, rfl⟩).mono ?_
 rintro _ _ ⟨r, rfl, rfl, rfl⟩
 exact hk _ hr hF
theorem F_lecternref01_Split_w (p0 : List UInt8) {G : (List UInt8) × (List UInt8) × Bool → Prop} (h : Heap) (hF : OptP (F_lecternref01_Split p0) G) : CallsA Tryz.prog 63 [.str p0] h fun d h' => ∃ r, G r ∧ d = .tup [.str r.1, .str r.2.1, .bool r.2.2] ∧ h' = h := by
 refine CallsA.ret ?_
 refine C_body Tryz.func63 rfl en_63 Tryz.ntmps63 rfl (fun ok => ?_)
 rw [F_lecternref01_Split] at hF
 refine Zqb1 ?_
 refine S_a (v := .str ([] : List UInt8)) rfl ?_
 refine S_a (v := .str ([] : List UInt8)) rfl ?_
 refine Zqcb ?_
 refine Zqe2 ?_
 refine cl (F_lecternref01_Name_ok _ hF fun x1 _ hF => ?_)
 refine Zqaa ?_
 refine C_if rfl hF (fun hb2 hF => ?_) fun hb2 hF => ?_
 ·refine Zqcd ?_
  refine S_a (v := .str ([] : List UInt8)) rfl ?_
  refine Zqft ?_
  exact rt
 ·refine Zqal ?_
  refine C_join hF (fun (_ : Unit) s' => OK h [] ∧ WS s' ⟨mkSl 39 [], Hp h []⟩) (fun J19 hF => ?_) ?_
  ·refine Zqd9 ?_
   refine C_loop (σ := Int) hF (fun (a20 : Int) s' => OK h [] ∧ WS s' ⟨mkSl 39 [(0, .str p0), (5, .int .i64 a20)], Hp h []⟩) ?_ ?_
   ·exact ⟨oy ok, wy ok⟩
   ·rintro G21 hG22 rec23 a20 s' ih24 hF ⟨ok, hws⟩
    refine WP_ws hws ?_
    clear hws s'
    rw [F_lecternref01_Split_l0] at hF
    refine Zqgm ?_
    refine Zqc0 ?_
    refine C_if rfl hF (fun hb25 hF => ?_) fun hb25 hF => ?_
    ·refine Zqem ?_
     refine Zqct ?_
     refine S_ixS rfl rfl ty_st_9 hF (fun x26 _ hF => ?_)
     refine Zqdr ?_
     refine S_twoJ 5 24 hF (fun J28 hb27 hF => ?_) (fun J28 hb27 hF => ?_) (fun v29 hF => ?_)
     ·refine Zqef ?_
      refine S_slS rfl ty_st_9 bd_no (bd_at rfl) hF (fun x30 _ hF => ?_)
      refine Zqb4 ?_
      refine cl (F_lecternref01_Name_ok _ hF fun x31 _ hF => ?_)
      refine Zqci ?_
      exact tw
     ·refine Zqev ?_
      exact tw
     ·refine Zqam ?_
      refine S_twoJ 6 31 hF (fun J33 hb32 hF => ?_) (fun J33 hb32 hF => ?_) (fun v34 hF => ?_)
      ·refine Zqef ?_
       refine Zqe5 ?_
       refine S_slS rfl ty_st_9 (bd_at rfl) bd_no hF (fun x35 _ hF => ?_)
       refine Zqb4 ?_
       refine cl (F_lecternref01_Name_ok _ hF fun x36 _ hF => ?_)
       refine Zqci ?_
       exact tw
      ·refine Zqeh ?_
       exact tw
      ·refine Zqaa ?_
       refine C_if rfl hF (fun hb37 hF => ?_) fun hb37 hF => ?_
       ·refine Zqab ?_
        refine C_drw (mdl []) (by kernel_rfl) (by kernel_rfl) ?_
        refine Zqak ?_
        refine Zqah ?_
        refine S_slS rfl ty_st_9 bd_no (bd_at rfl) hF (fun x38 _ hF => ?_)
        refine Zqak ?_
        refine Zqcm ?_
        refine S_slS rfl ty_st_9 (bd_at rfl) bd_no hF (fun x39 _ hF => ?_)
        refine Zqaz ?_
        refine Zqft ?_
        replace hF := hG22 _ (F_some hF)
        exact rt
       ·refine Zqal ?_
        refine Zqd2 ?_
        refine ih24 (IntKind.wrap .i64 (a20 + (1 : Int))) _ hF ?_
        exact ⟨oy ok, wy ok⟩
    ·refine Zqcs ?_
     replace hF := hG22 _ (F_some hF)
     exact ⟨(), hF, oy ok, wy ok⟩
  ·rintro ⟨⟩ s' hF ⟨ok, hws⟩
   refine WP_ws hws ?_
   clear hws s'
   refine Zqb1 ?_
   refine S_a (v := .str ([] : List UInt8)) rfl ?_
   refine S_a (v := .str ([] : List UInt8)) rfl ?_
   refine Zqcl ?_
   exact rt
theorem F_lecternref01_Split_ok {β : Type} {f : (List UInt8) × (List UInt8) × Bool → Option β} {G : β → Prop} {R : D → Heap → Prop} {p0 : List UInt8} (h : Heap) (hF : OptP ((F_lecternref01_Split p0).bind f) G) (hk : ∀ r, F_lecternref01_Split p0 = some r → OptP (f r) G → R (.tup [.str r.1, .str r.2.1, .bool r.2.2]) h) : CallsA Tryz.prog 63 [.str p0] h R := by
 obtain ⟨r0, hr, hF⟩ := F_bind hF
 refine (F_lecternref01_Split_w (G := fun r => r = r0) p0 h ⟨r0, hr, rfl⟩).mono ?_
 rintro _ _ ⟨r, rfl, rfl, rfl⟩
 exact hk _ hr hF
theorem F_lecternref03_written_w (p0 : List UInt8) (p1 : Int) {G : (List UInt8) × Int × Int → Prop} (h : Heap) (hF : OptP (F_lecternref03_written p0 p1) G) : CallsA Tryz.prog 39 [.str p0, .int .i64 p1] h fun d h' => ∃ r, G r ∧ d = .tup [.str r.1, .int .i64 r.2.1, .int .i64 r.2.2] ∧ h' = h := by
 refine CallsA.ret ?_
 refine C_body Tryz.func39 rfl en_39 Tryz.ntmps39 rfl (fun ok => ?_)
 rw [F_lecternref03_written] at hF
 refine Zqb1 ?_
 refine S_a (v := .str ([] : List UInt8)) rfl ?_
 refine Zqcn ?_
 refine Zqb7 ?_
 refine Zqb5 ?_
 refine C_join hF (fun (a19 : Int) s' => OK h [] ∧ WS s' ⟨mkSl 76 [(0, .str p0), (1, .int .i64 p1), (7, .int .i64 a19)], Hp h []⟩) (fun J20 hF => ?_) ?_
 ·refine Zqaw ?_
  refine C_loop (σ := Int) hF (fun (a21 : Int) s' => OK h [] ∧ WS s' ⟨mkSl 76 [(0, .str p0), (1, .int .i64 p1), (7, .int .i64 a21)], Hp h []⟩) ?_ ?_
  ·exact ⟨oy ok, wy ok⟩
  ·rintro G22 hG23 rec24 a21 s' ih25 hF ⟨ok, hws⟩
   refine WP_ws hws ?_
   clear hws s'
   rw [F_lecternref03_written_l0] at hF
   refine Zqgm ?_
   refine Zqc0 ?_
   refine C_if rfl hF (fun hb26 hF => ?_) fun hb26 hF => ?_
   ·refine Zqea ?_
    refine Zqct ?_
    refine Zqdg ?_
    refine Zqcm ?_
    refine S_min rfl rfl ?_
    refine S_slS rfl ty_st_9 (bd_at rfl) (bd_at rfl) hF (fun x27 _ hF => ?_)
    refine Zqbk ?_
    refine cl (F_lecternref01_Read_ok _ hF fun x28 _ hF => ?_)
    refine Zqgj ?_
    refine Zqdr ?_
    refine S_twoJ 8 41 hF (fun J30 hb29 hF => ?_) (fun J30 hb29 hF => ?_) (fun v31 hF => ?_)
    ·refine Zqdz ?_
     refine Zqcg ?_
     refine Zqee ?_
     exact tw
    ·refine Zqce ?_
     refine Zqa1 ?_
     refine Zqdp ?_
     refine S_twoJ 4 40 hF (fun J33 hb32 hF => ?_) (fun J33 hb32 hF => ?_) (fun v34 hF => ?_)
     ·refine Zqce ?_
      refine cl (F_lecternref01_Part_ok _ hF fun x35 _ hF => ?_)
      refine Zqdl ?_
      refine Zqdv ?_
      exact tw
     ·refine Zqcz ?_
      refine Zqdq ?_
      exact tw
     ·refine Zqb9 ?_
      exact tw
    ·refine Zqaa ?_
     refine C_if rfl hF (fun hb36 hF => ?_) fun hb36 hF => ?_
     ·refine Zqcs ?_
      replace hF := hG23 _ (F_some hF)
      exact ⟨a21, hF, oy ok, wy ok⟩
     ·refine Zqal ?_
      refine Zqer ?_
      refine Zqdr ?_
      refine S_two (b := (a21 == p1)) 3 48 (.bool ((a21 == p1) && (x28.1 != (58 : Int)))) (fun hb37 => ?_) (fun hb37 => ?_) ?_
      ·refine Zqce ?_
       refine Zqa1 ?_
       refine Zqci ?_
       exact th
      ·refine Zqcv ?_
       exact th
      refine Zqam ?_
      refine S_twoJ 4 53 hF (fun J39 hb38 hF => ?_) (fun J39 hb38 hF => ?_) (fun v40 hF => ?_)
      ·refine Zqce ?_
       refine cl (F_lecternref01_Start_ok _ hF fun x41 _ hF => ?_)
       refine Zqgc ?_
       exact tw
      ·refine Zqeq ?_
       exact tw
      ·refine Zqaa ?_
       refine C_if rfl hF (fun hb42 hF => ?_) fun hb42 hF => ?_
       ·refine Zqb1 ?_
        refine S_a (v := .str ([] : List UInt8)) rfl ?_
        refine Zqcf ?_
        replace hF := hG23 _ (F_some hF)
        exact rt
       ·refine Zqfs ?_
        refine Zqdk ?_
        refine ih25 (IntKind.wrap .i64 (a21 + x28.2)) _ hF ?_
        exact ⟨oy ok, wy ok⟩
   ·refine Zqcs ?_
    replace hF := hG23 _ (F_some hF)
    exact ⟨a21, hF, oy ok, wy ok⟩
 ·rintro a19 s' hF ⟨ok, hws⟩
  refine WP_ws hws ?_
  clear hws s'
  refine Zqer ?_
  refine Zqdy ?_
  refine C_if rfl hF (fun hb43 hF => ?_) fun hb43 hF => ?_
  ·refine Zqb1 ?_
   refine S_a (v := .str ([] : List UInt8)) rfl ?_
   refine Zqcf ?_
   exact rt
  ·refine Zqf1 ?_
   refine Zqah ?_
   refine S_slS rfl ty_st_9 (bd_at rfl) (bd_at rfl) hF (fun x44 _ hF => ?_)
   refine cl (F_lecternref01_Split_ok _ hF fun x45 _ hF => ?_)
   refine Zqey ?_
   refine Zqaz ?_
   refine Zqcb ?_
   refine Zqab ?_
   refine Zqe3 ?_
   refine Zqei ?_
   refine C_if rfl hF (fun hb46 hF => ?_) fun hb46 hF => ?_
   ·refine Zqb1 ?_
    refine S_a (v := .str ([] : List UInt8)) rfl ?_
    refine Zqcf ?_
    exact rt
   ·refine Zqf1 ?_
    refine Zqah ?_
    refine S_slS rfl ty_st_9 (bd_at rfl) (bd_at rfl) hF (fun x47 _ hF => ?_)
    refine Zqah ?_
    refine Zqaz ?_
    refine Zqcf ?_
    exact rt
theorem F_lecternref03_written_ok {β : Type} {f : (List UInt8) × Int × Int → Option β} {G : β → Prop} {R : D → Heap → Prop} {p0 : List UInt8} {p1 : Int} (h : Heap) (hF : OptP ((F_lecternref03_written p0 p1).bind f) G) (hk : ∀ r, F_lecternref03_written p0 p1 = some r → OptP (f r) G → R (.tup [.str r.1, .int .i64 r.2.1, .int .i64 r.2.2]) h) : CallsA Tryz.prog 39 [.str p0, .int .i64 p1] h R := by
 obtain ⟨r0, hr, hF⟩ := F_bind hF
 refine (F_lecternref03_written_w (G := fun r => r = r0) p0 p1 h ⟨r0, hr, rfl⟩).mono ?_
 rintro _ _ ⟨r, rfl, rfl, rfl⟩
 exact hk _ hr hF
theorem F_lecternref03_instruction_w (p0 : List UInt8) (p1 : Int) {G : T_lecternref03_Token × Int × Int → Prop} (h : Heap) (hF : OptP (F_lecternref03_instruction p0 p1) G) : CallsA Tryz.prog 38 [.str p0, .int .i64 p1] h fun d h' => ∃ r, G r ∧ d = .tup [.agg (c_T_lecternref03_Token r.1), .int .i64 r.2.1, .int .i64 r.2.2] ∧ h' = h := by
 refine CallsA.ret ?_
 refine C_body Tryz.func38 rfl en_38 Tryz.ntmps38 rfl (fun ok => ?_)
 rw [F_lecternref03_instruction] at hF
 refine Zqab ?_
 refine C_reg (mdl [(4, 1)]) ?_
 refine S_all1 ok rfl ty_zc_37 ?_
 intro i1 hi1 ok
 refine Zqcn ?_
 refine Zqct ?_
 refine cl (F_lecternref03_written_ok _ hF fun x2 _ hF => ?_)
 refine Zqgn ?_
 refine C_if rfl hF (fun hb3 hF => ?_) fun hb3 hF => ?_
 ·refine Zqb1 ?_
  refine S_bld (v := .agg [.int .i64 (0 : Int), .int .i64 (0 : Int), .str ([] : List UInt8), .snil, .str ([] : List UInt8), .int .i64 (0 : Int)]) (b_st ty_zc_37 ty_pl_37 rfl) ?_
  refine S_one 21 (v := .agg (c_T_lecternref03_Token (⟨(0 : Int), (0 : Int), ([] : List UInt8), ([] : List T_scan_Pair), ([] : List UInt8), (0 : Int)⟩ : T_lecternref03_Token))) (.aggC (.cons (.refl _) (.cons (.refl _) (.cons (.refl _) (.cons (.nil _) (.cons (.refl _) (.cons (.refl _) (.nil)))))))) ?_
  refine Zqah ?_
  refine S_st (j := 0) (cs' := [.int .i64 (⟨(0 : Int), (0 : Int), ([] : List UInt8), ([] : List T_scan_Pair), ([] : List UInt8), (0 : Int)⟩ : T_lecternref03_Token).Kind, .int .i64 (⟨(0 : Int), (0 : Int), ([] : List UInt8), ([] : List T_scan_Pair), ([] : List UInt8), (0 : Int)⟩ : T_lecternref03_Token).At, .str (⟨(0 : Int), (0 : Int), ([] : List UInt8), ([] : List T_scan_Pair), ([] : List UInt8), (0 : Int)⟩ : T_lecternref03_Token).Name, .sl 2 (List.map c_T_scan_Pair (⟨(0 : Int), (0 : Int), ([] : List UInt8), ([] : List T_scan_Pair), ([] : List UInt8), (0 : Int)⟩ : T_lecternref03_Token).Pairs) 0, .str (⟨(0 : Int), (0 : Int), ([] : List UInt8), ([] : List T_scan_Pair), ([] : List UInt8), (0 : Int)⟩ : T_lecternref03_Token).Text, .int .i64 (⟨(0 : Int), (0 : Int), ([] : List UInt8), ([] : List T_scan_Pair), ([] : List UInt8), (0 : Int)⟩ : T_lecternref03_Token).Refs]) ok rfl rfl rfl hi1 rfl ty_sz_37 rfl rfl (fun ok => ?_)
  refine Zqcf ?_
  refine xr ?_
  refine C_ret (fn := Tryz.f38) rfl (.cell rfl (ld_ptr (j := 0) ok rfl hi1 (p_agg (vs := [.int .i64 (⟨(0 : Int), (0 : Int), ([] : List UInt8), ([] : List T_scan_Pair), ([] : List UInt8), (0 : Int)⟩ : T_lecternref03_Token).Kind, .int .i64 (⟨(0 : Int), (0 : Int), ([] : List UInt8), ([] : List T_scan_Pair), ([] : List UInt8), (0 : Int)⟩ : T_lecternref03_Token).At, .str (⟨(0 : Int), (0 : Int), ([] : List UInt8), ([] : List T_scan_Pair), ([] : List UInt8), (0 : Int)⟩ : T_lecternref03_Token).Name, .sl 2 (List.map c_T_scan_Pair (⟨(0 : Int), (0 : Int), ([] : List UInt8), ([] : List T_scan_Pair), ([] : List UInt8), (0 : Int)⟩ : T_lecternref03_Token).Pairs) 0, .str (⟨(0 : Int), (0 : Int), ([] : List UInt8), ([] : List T_scan_Pair), ([] : List UInt8), (0 : Int)⟩ : T_lecternref03_Token).Text, .int .i64 (⟨(0 : Int), (0 : Int), ([] : List UInt8), ([] : List T_scan_Pair), ([] : List UInt8), (0 : Int)⟩ : T_lecternref03_Token).Refs]) ty_ag_37 ty_sz_37 rfl rfl)) (.tmp (v := .int .i64 (0 : Int)) rfl (.tmp (v := .int .i64 x2.2.2) rfl .nil))) ?_
  exact ⟨_, _, (.tupC (.cons (.aggC (.cons (.refl _) (.cons (.refl _) (.cons (.refl _) (.cons (.refl _) (.cons (.refl _) (.cons (.refl _) (.nil)))))))) (.cons (.refl _) (.cons (.refl _) (.nil))))), ok.wh, _, F_some hF, rfl, rfl⟩
 ·refine Zqc2 ?_
  refine Zqcd ?_
  refine cl (F_lecternref01_Name_ok _ hF fun x4 _ hF => ?_)
  refine Zqei ?_
  refine C_if rfl hF (fun hb5 hF => ?_) fun hb5 hF => ?_
  ·refine Zqb1 ?_
   refine S_bld (v := .agg [.int .i64 (0 : Int), .int .i64 (0 : Int), .str ([] : List UInt8), .snil, .str ([] : List UInt8), .int .i64 (0 : Int)]) (b_st ty_zc_37 ty_pl_37 rfl) ?_
   refine S_one 26 (v := .agg (c_T_lecternref03_Token (⟨(0 : Int), (0 : Int), ([] : List UInt8), ([] : List T_scan_Pair), ([] : List UInt8), (0 : Int)⟩ : T_lecternref03_Token))) (.aggC (.cons (.refl _) (.cons (.refl _) (.cons (.refl _) (.cons (.nil _) (.cons (.refl _) (.cons (.refl _) (.nil)))))))) ?_
   refine S_st (j := 0) (cs' := [.int .i64 (⟨(0 : Int), (0 : Int), ([] : List UInt8), ([] : List T_scan_Pair), ([] : List UInt8), (0 : Int)⟩ : T_lecternref03_Token).Kind, .int .i64 (⟨(0 : Int), (0 : Int), ([] : List UInt8), ([] : List T_scan_Pair), ([] : List UInt8), (0 : Int)⟩ : T_lecternref03_Token).At, .str (⟨(0 : Int), (0 : Int), ([] : List UInt8), ([] : List T_scan_Pair), ([] : List UInt8), (0 : Int)⟩ : T_lecternref03_Token).Name, .sl 2 (List.map c_T_scan_Pair (⟨(0 : Int), (0 : Int), ([] : List UInt8), ([] : List T_scan_Pair), ([] : List UInt8), (0 : Int)⟩ : T_lecternref03_Token).Pairs) 0, .str (⟨(0 : Int), (0 : Int), ([] : List UInt8), ([] : List T_scan_Pair), ([] : List UInt8), (0 : Int)⟩ : T_lecternref03_Token).Text, .int .i64 (⟨(0 : Int), (0 : Int), ([] : List UInt8), ([] : List T_scan_Pair), ([] : List UInt8), (0 : Int)⟩ : T_lecternref03_Token).Refs]) ok rfl rfl rfl hi1 rfl ty_sz_37 rfl rfl (fun ok => ?_)
   refine Zqcf ?_
   refine xr ?_
   refine C_ret (fn := Tryz.f38) rfl (.cell rfl (ld_ptr (j := 0) ok rfl hi1 (p_agg (vs := [.int .i64 (⟨(0 : Int), (0 : Int), ([] : List UInt8), ([] : List T_scan_Pair), ([] : List UInt8), (0 : Int)⟩ : T_lecternref03_Token).Kind, .int .i64 (⟨(0 : Int), (0 : Int), ([] : List UInt8), ([] : List T_scan_Pair), ([] : List UInt8), (0 : Int)⟩ : T_lecternref03_Token).At, .str (⟨(0 : Int), (0 : Int), ([] : List UInt8), ([] : List T_scan_Pair), ([] : List UInt8), (0 : Int)⟩ : T_lecternref03_Token).Name, .sl 2 (List.map c_T_scan_Pair (⟨(0 : Int), (0 : Int), ([] : List UInt8), ([] : List T_scan_Pair), ([] : List UInt8), (0 : Int)⟩ : T_lecternref03_Token).Pairs) 0, .str (⟨(0 : Int), (0 : Int), ([] : List UInt8), ([] : List T_scan_Pair), ([] : List UInt8), (0 : Int)⟩ : T_lecternref03_Token).Text, .int .i64 (⟨(0 : Int), (0 : Int), ([] : List UInt8), ([] : List T_scan_Pair), ([] : List UInt8), (0 : Int)⟩ : T_lecternref03_Token).Refs]) ty_ag_37 ty_sz_37 rfl rfl)) (.tmp (v := .int .i64 (0 : Int)) rfl (.tmp (v := .int .i64 (24 : Int)) rfl .nil))) ?_
   exact ⟨_, _, (.tupC (.cons (.aggC (.cons (.refl _) (.cons (.refl _) (.cons (.refl _) (.cons (.refl _) (.cons (.refl _) (.cons (.refl _) (.nil)))))))) (.cons (.refl _) (.cons (.refl _) (.nil))))), ok.wh, _, F_some hF, rfl, rfl⟩
  ·refine Zqc2 ?_
   refine Zqcd ?_
   refine cl (F_lecternref03_small_ok _ hF fun x6 _ hF => ?_)
   refine Zqfx ?_
   refine C_if rfl hF (fun hb7 hF => ?_) fun hb7 hF => ?_
   ·refine Zqb1 ?_
    refine S_bld (v := .agg [.int .i64 (0 : Int), .int .i64 (0 : Int), .str ([] : List UInt8), .snil, .str ([] : List UInt8), .int .i64 (0 : Int)]) (b_st ty_zc_37 ty_pl_37 rfl) ?_
    refine S_one 30 (v := .agg (c_T_lecternref03_Token (⟨(0 : Int), (0 : Int), ([] : List UInt8), ([] : List T_scan_Pair), ([] : List UInt8), (0 : Int)⟩ : T_lecternref03_Token))) (.aggC (.cons (.refl _) (.cons (.refl _) (.cons (.refl _) (.cons (.nil _) (.cons (.refl _) (.cons (.refl _) (.nil)))))))) ?_
    refine S_st (j := 0) (cs' := [.int .i64 (⟨(0 : Int), (0 : Int), ([] : List UInt8), ([] : List T_scan_Pair), ([] : List UInt8), (0 : Int)⟩ : T_lecternref03_Token).Kind, .int .i64 (⟨(0 : Int), (0 : Int), ([] : List UInt8), ([] : List T_scan_Pair), ([] : List UInt8), (0 : Int)⟩ : T_lecternref03_Token).At, .str (⟨(0 : Int), (0 : Int), ([] : List UInt8), ([] : List T_scan_Pair), ([] : List UInt8), (0 : Int)⟩ : T_lecternref03_Token).Name, .sl 2 (List.map c_T_scan_Pair (⟨(0 : Int), (0 : Int), ([] : List UInt8), ([] : List T_scan_Pair), ([] : List UInt8), (0 : Int)⟩ : T_lecternref03_Token).Pairs) 0, .str (⟨(0 : Int), (0 : Int), ([] : List UInt8), ([] : List T_scan_Pair), ([] : List UInt8), (0 : Int)⟩ : T_lecternref03_Token).Text, .int .i64 (⟨(0 : Int), (0 : Int), ([] : List UInt8), ([] : List T_scan_Pair), ([] : List UInt8), (0 : Int)⟩ : T_lecternref03_Token).Refs]) ok rfl rfl rfl hi1 rfl ty_sz_37 rfl rfl (fun ok => ?_)
    refine Zqcf ?_
    refine xr ?_
    refine C_ret (fn := Tryz.f38) rfl (.cell rfl (ld_ptr (j := 0) ok rfl hi1 (p_agg (vs := [.int .i64 (⟨(0 : Int), (0 : Int), ([] : List UInt8), ([] : List T_scan_Pair), ([] : List UInt8), (0 : Int)⟩ : T_lecternref03_Token).Kind, .int .i64 (⟨(0 : Int), (0 : Int), ([] : List UInt8), ([] : List T_scan_Pair), ([] : List UInt8), (0 : Int)⟩ : T_lecternref03_Token).At, .str (⟨(0 : Int), (0 : Int), ([] : List UInt8), ([] : List T_scan_Pair), ([] : List UInt8), (0 : Int)⟩ : T_lecternref03_Token).Name, .sl 2 (List.map c_T_scan_Pair (⟨(0 : Int), (0 : Int), ([] : List UInt8), ([] : List T_scan_Pair), ([] : List UInt8), (0 : Int)⟩ : T_lecternref03_Token).Pairs) 0, .str (⟨(0 : Int), (0 : Int), ([] : List UInt8), ([] : List T_scan_Pair), ([] : List UInt8), (0 : Int)⟩ : T_lecternref03_Token).Text, .int .i64 (⟨(0 : Int), (0 : Int), ([] : List UInt8), ([] : List T_scan_Pair), ([] : List UInt8), (0 : Int)⟩ : T_lecternref03_Token).Refs]) ty_ag_37 ty_sz_37 rfl rfl)) (.tmp (v := .int .i64 (0 : Int)) rfl (.tmp (v := .int .i64 (29 : Int)) rfl .nil))) ?_
    exact ⟨_, _, (.tupC (.cons (.aggC (.cons (.refl _) (.cons (.refl _) (.cons (.refl _) (.cons (.refl _) (.cons (.refl _) (.cons (.refl _) (.nil)))))))) (.cons (.refl _) (.cons (.refl _) (.nil))))), ok.wh, _, F_some hF, rfl, rfl⟩
   ·refine Zqc2 ?_
    refine Zqct ?_
    refine cl (F_lecternref03_Stands_ok _ hF fun x8 _ hF => ?_)
    refine Zqaa ?_
    refine C_if rfl hF (fun hb9 hF => ?_) fun hb9 hF => ?_
    ·refine Zqcd ?_
     refine S_bld (v := .agg [.int .i64 (8 : Int), .int .i64 (0 : Int), .str x2.1, .snil, .str ([] : List UInt8), .int .i64 (0 : Int)]) (b_st ty_zc_37 ty_pl_37 rfl) ?_
     refine S_one 35 (v := .agg (c_T_lecternref03_Token (⟨(8 : Int), (0 : Int), x2.1, ([] : List T_scan_Pair), ([] : List UInt8), (0 : Int)⟩ : T_lecternref03_Token))) (.aggC (.cons (.refl _) (.cons (.refl _) (.cons (.refl _) (.cons (.nil _) (.cons (.refl _) (.cons (.refl _) (.nil)))))))) ?_
     refine Zqcm ?_
     refine S_st (j := 0) (cs' := [.int .i64 (⟨(8 : Int), (0 : Int), x2.1, ([] : List T_scan_Pair), ([] : List UInt8), (0 : Int)⟩ : T_lecternref03_Token).Kind, .int .i64 (⟨(8 : Int), (0 : Int), x2.1, ([] : List T_scan_Pair), ([] : List UInt8), (0 : Int)⟩ : T_lecternref03_Token).At, .str (⟨(8 : Int), (0 : Int), x2.1, ([] : List T_scan_Pair), ([] : List UInt8), (0 : Int)⟩ : T_lecternref03_Token).Name, .sl 2 (List.map c_T_scan_Pair (⟨(8 : Int), (0 : Int), x2.1, ([] : List T_scan_Pair), ([] : List UInt8), (0 : Int)⟩ : T_lecternref03_Token).Pairs) 0, .str (⟨(8 : Int), (0 : Int), x2.1, ([] : List T_scan_Pair), ([] : List UInt8), (0 : Int)⟩ : T_lecternref03_Token).Text, .int .i64 (⟨(8 : Int), (0 : Int), x2.1, ([] : List T_scan_Pair), ([] : List UInt8), (0 : Int)⟩ : T_lecternref03_Token).Refs]) ok rfl rfl rfl hi1 rfl ty_sz_37 rfl rfl (fun ok => ?_)
     refine Zqcf ?_
     refine xr ?_
     refine C_ret (fn := Tryz.f38) rfl (.cell rfl (ld_ptr (j := 0) ok rfl hi1 (p_agg (vs := [.int .i64 (⟨(8 : Int), (0 : Int), x2.1, ([] : List T_scan_Pair), ([] : List UInt8), (0 : Int)⟩ : T_lecternref03_Token).Kind, .int .i64 (⟨(8 : Int), (0 : Int), x2.1, ([] : List T_scan_Pair), ([] : List UInt8), (0 : Int)⟩ : T_lecternref03_Token).At, .str (⟨(8 : Int), (0 : Int), x2.1, ([] : List T_scan_Pair), ([] : List UInt8), (0 : Int)⟩ : T_lecternref03_Token).Name, .sl 2 (List.map c_T_scan_Pair (⟨(8 : Int), (0 : Int), x2.1, ([] : List T_scan_Pair), ([] : List UInt8), (0 : Int)⟩ : T_lecternref03_Token).Pairs) 0, .str (⟨(8 : Int), (0 : Int), x2.1, ([] : List T_scan_Pair), ([] : List UInt8), (0 : Int)⟩ : T_lecternref03_Token).Text, .int .i64 (⟨(8 : Int), (0 : Int), x2.1, ([] : List T_scan_Pair), ([] : List UInt8), (0 : Int)⟩ : T_lecternref03_Token).Refs]) ty_ag_37 ty_sz_37 rfl rfl)) (.tmp (v := .int .i64 (IntKind.wrap .i64 (x2.2.1 + (2 : Int)))) rfl (.tmp (v := .int .i64 (0 : Int)) rfl .nil))) ?_
     exact ⟨_, _, (.tupC (.cons (.aggC (.cons (.refl _) (.cons (.refl _) (.cons (.refl _) (.cons (.refl _) (.cons (.refl _) (.cons (.refl _) (.nil)))))))) (.cons (.refl _) (.cons (.refl _) (.nil))))), ok.wh, _, F_some hF, rfl, rfl⟩
    ·refine Zqf1 ?_
     refine cl (F_lecternref03_White_ok _ hF fun x10 _ hF => ?_)
     refine Zqb5 ?_
     refine Zqct ?_
     refine cl (F_lecternref03_Find_ok _ hF fun x11 _ hF => ?_)
     refine Zqdu ?_
     refine Zqah ?_
     refine Zqdr ?_
     refine S_two (b := (x10 == x2.2.1)) 3 50 (.bool ((x10 == x2.2.1) || (decide (x11 < (0 : Int))))) (fun hb12 => ?_) (fun hb12 => ?_) ?_
     ·refine Zqc9 ?_
      exact th
     ·refine Zqce ?_
      refine Zqay ?_
      refine Zqcp ?_
      exact th
     refine Zqaa ?_
     refine C_if rfl hF (fun hb13 hF => ?_) fun hb13 hF => ?_
     ·refine Zqb1 ?_
      refine S_bld (v := .agg [.int .i64 (0 : Int), .int .i64 (0 : Int), .str ([] : List UInt8), .snil, .str ([] : List UInt8), .int .i64 (0 : Int)]) (b_st ty_zc_37 ty_pl_37 rfl) ?_
      refine S_one 51 (v := .agg (c_T_lecternref03_Token (⟨(0 : Int), (0 : Int), ([] : List UInt8), ([] : List T_scan_Pair), ([] : List UInt8), (0 : Int)⟩ : T_lecternref03_Token))) (.aggC (.cons (.refl _) (.cons (.refl _) (.cons (.refl _) (.cons (.nil _) (.cons (.refl _) (.cons (.refl _) (.nil)))))))) ?_
      refine S_st (j := 0) (cs' := [.int .i64 (⟨(0 : Int), (0 : Int), ([] : List UInt8), ([] : List T_scan_Pair), ([] : List UInt8), (0 : Int)⟩ : T_lecternref03_Token).Kind, .int .i64 (⟨(0 : Int), (0 : Int), ([] : List UInt8), ([] : List T_scan_Pair), ([] : List UInt8), (0 : Int)⟩ : T_lecternref03_Token).At, .str (⟨(0 : Int), (0 : Int), ([] : List UInt8), ([] : List T_scan_Pair), ([] : List UInt8), (0 : Int)⟩ : T_lecternref03_Token).Name, .sl 2 (List.map c_T_scan_Pair (⟨(0 : Int), (0 : Int), ([] : List UInt8), ([] : List T_scan_Pair), ([] : List UInt8), (0 : Int)⟩ : T_lecternref03_Token).Pairs) 0, .str (⟨(0 : Int), (0 : Int), ([] : List UInt8), ([] : List T_scan_Pair), ([] : List UInt8), (0 : Int)⟩ : T_lecternref03_Token).Text, .int .i64 (⟨(0 : Int), (0 : Int), ([] : List UInt8), ([] : List T_scan_Pair), ([] : List UInt8), (0 : Int)⟩ : T_lecternref03_Token).Refs]) ok rfl rfl rfl hi1 rfl ty_sz_37 rfl rfl (fun ok => ?_)
      refine Zqcf ?_
      refine xr ?_
      refine C_ret (fn := Tryz.f38) rfl (.cell rfl (ld_ptr (j := 0) ok rfl hi1 (p_agg (vs := [.int .i64 (⟨(0 : Int), (0 : Int), ([] : List UInt8), ([] : List T_scan_Pair), ([] : List UInt8), (0 : Int)⟩ : T_lecternref03_Token).Kind, .int .i64 (⟨(0 : Int), (0 : Int), ([] : List UInt8), ([] : List T_scan_Pair), ([] : List UInt8), (0 : Int)⟩ : T_lecternref03_Token).At, .str (⟨(0 : Int), (0 : Int), ([] : List UInt8), ([] : List T_scan_Pair), ([] : List UInt8), (0 : Int)⟩ : T_lecternref03_Token).Name, .sl 2 (List.map c_T_scan_Pair (⟨(0 : Int), (0 : Int), ([] : List UInt8), ([] : List T_scan_Pair), ([] : List UInt8), (0 : Int)⟩ : T_lecternref03_Token).Pairs) 0, .str (⟨(0 : Int), (0 : Int), ([] : List UInt8), ([] : List T_scan_Pair), ([] : List UInt8), (0 : Int)⟩ : T_lecternref03_Token).Text, .int .i64 (⟨(0 : Int), (0 : Int), ([] : List UInt8), ([] : List T_scan_Pair), ([] : List UInt8), (0 : Int)⟩ : T_lecternref03_Token).Refs]) ty_ag_37 ty_sz_37 rfl rfl)) (.tmp (v := .int .i64 (0 : Int)) rfl (.tmp (v := .int .i64 (23 : Int)) rfl .nil))) ?_
      exact ⟨_, _, (.tupC (.cons (.aggC (.cons (.refl _) (.cons (.refl _) (.cons (.refl _) (.cons (.refl _) (.cons (.refl _) (.cons (.refl _) (.nil)))))))) (.cons (.refl _) (.cons (.refl _) (.nil))))), ok.wh, _, F_some hF, rfl, rfl⟩
     ·refine Zqeo ?_
      refine Zqak ?_
      refine Zqah ?_
      refine Zqah ?_
      refine S_slS rfl ty_st_9 (bd_at rfl) (bd_at rfl) hF (fun x14 _ hF => ?_)
      refine S_bld (v := .agg [.int .i64 (8 : Int), .int .i64 (0 : Int), .str x2.1, .snil, .str x14, .int .i64 (0 : Int)]) (b_st ty_zc_37 ty_pl_37 rfl) ?_
      refine S_one 57 (v := .agg (c_T_lecternref03_Token (⟨(8 : Int), (0 : Int), x2.1, ([] : List T_scan_Pair), x14, (0 : Int)⟩ : T_lecternref03_Token))) (.aggC (.cons (.refl _) (.cons (.refl _) (.cons (.refl _) (.cons (.nil _) (.cons (.refl _) (.cons (.refl _) (.nil)))))))) ?_
      refine Zqcm ?_
      refine S_st (j := 0) (cs' := [.int .i64 (⟨(8 : Int), (0 : Int), x2.1, ([] : List T_scan_Pair), x14, (0 : Int)⟩ : T_lecternref03_Token).Kind, .int .i64 (⟨(8 : Int), (0 : Int), x2.1, ([] : List T_scan_Pair), x14, (0 : Int)⟩ : T_lecternref03_Token).At, .str (⟨(8 : Int), (0 : Int), x2.1, ([] : List T_scan_Pair), x14, (0 : Int)⟩ : T_lecternref03_Token).Name, .sl 2 (List.map c_T_scan_Pair (⟨(8 : Int), (0 : Int), x2.1, ([] : List T_scan_Pair), x14, (0 : Int)⟩ : T_lecternref03_Token).Pairs) 0, .str (⟨(8 : Int), (0 : Int), x2.1, ([] : List T_scan_Pair), x14, (0 : Int)⟩ : T_lecternref03_Token).Text, .int .i64 (⟨(8 : Int), (0 : Int), x2.1, ([] : List T_scan_Pair), x14, (0 : Int)⟩ : T_lecternref03_Token).Refs]) ok rfl rfl rfl hi1 rfl ty_sz_37 rfl rfl (fun ok => ?_)
      refine Zqcf ?_
      refine xr ?_
      refine C_ret (fn := Tryz.f38) rfl (.cell rfl (ld_ptr (j := 0) ok rfl hi1 (p_agg (vs := [.int .i64 (⟨(8 : Int), (0 : Int), x2.1, ([] : List T_scan_Pair), x14, (0 : Int)⟩ : T_lecternref03_Token).Kind, .int .i64 (⟨(8 : Int), (0 : Int), x2.1, ([] : List T_scan_Pair), x14, (0 : Int)⟩ : T_lecternref03_Token).At, .str (⟨(8 : Int), (0 : Int), x2.1, ([] : List T_scan_Pair), x14, (0 : Int)⟩ : T_lecternref03_Token).Name, .sl 2 (List.map c_T_scan_Pair (⟨(8 : Int), (0 : Int), x2.1, ([] : List T_scan_Pair), x14, (0 : Int)⟩ : T_lecternref03_Token).Pairs) 0, .str (⟨(8 : Int), (0 : Int), x2.1, ([] : List T_scan_Pair), x14, (0 : Int)⟩ : T_lecternref03_Token).Text, .int .i64 (⟨(8 : Int), (0 : Int), x2.1, ([] : List T_scan_Pair), x14, (0 : Int)⟩ : T_lecternref03_Token).Refs]) ty_ag_37 ty_sz_37 rfl rfl)) (.tmp (v := .int .i64 (IntKind.wrap .i64 (x11 + (2 : Int)))) rfl (.tmp (v := .int .i64 (0 : Int)) rfl .nil))) ?_
      exact ⟨_, _, (.tupC (.cons (.aggC (.cons (.refl _) (.cons (.refl _) (.cons (.refl _) (.cons (.refl _) (.cons (.refl _) (.cons (.refl _) (.nil)))))))) (.cons (.refl _) (.cons (.refl _) (.nil))))), ok.wh, _, F_some hF, rfl, rfl⟩
theorem F_lecternref03_instruction_ok {β : Type} {f : T_lecternref03_Token × Int × Int → Option β} {G : β → Prop} {R : D → Heap → Prop} {p0 : List UInt8} {p1 : Int} (h : Heap) (hF : OptP ((F_lecternref03_instruction p0 p1).bind f) G) (hk : ∀ r, F_lecternref03_instruction p0 p1 = some r → OptP (f r) G → R (.tup [.agg (c_T_lecternref03_Token r.1), .int .i64 r.2.1, .int .i64 r.2.2]) h) : CallsA Tryz.prog 38 [.str p0, .int .i64 p1] h R := by
 obtain ⟨r0, hr, hF⟩ := F_bind hF
 refine (F_lecternref03_instruction_w (G := fun r => r = r0) p0 p1 h ⟨r0, hr, rfl⟩).mono ?_
 rintro _ _ ⟨r, rfl, rfl, rfl⟩
 exact hk _ hr hF
theorem F_lecternref02_word_w (p0 : List UInt8) (p1 : Int) {G : Int × Int → Prop} (h : Heap) (hF : OptP (F_lecternref02_word p0 p1) G) : CallsA Tryz.prog 86 [.sl 1 (List.map c_u8 p0) 0, .int .i64 p1] h fun d h' => ∃ r, G r ∧ d = .tup [.int .i64 r.1, .int .i64 r.2] ∧ h' = h := by
 refine CallsA.ret ?_
 refine C_body Tryz.func86 rfl en_86 Tryz.ntmps86 rfl (fun ok => ?_)
 rw [F_lecternref02_word] at hF
 refine Zqb1 ?_
 refine Zqcn ?_
 refine C_join hF (fun (_ : Unit) s' => OK h [] ∧ WS s' ⟨mkSl 41 [], Hp h []⟩) (fun J10 hF => ?_) ?_
 ·refine Zqd9 ?_
  refine C_loop (σ := Int) hF (fun (a11 : Int) s' => OK h [] ∧ WS s' ⟨mkSl 41 [(0, .sl 1 (List.map c_u8 p0) 0), (1, .int .i64 p1), (6, .int .i64 a11)], Hp h []⟩) ?_ ?_
  ·exact ⟨oy ok, wy ok⟩
  ·rintro G12 hG13 rec14 a11 s' ih15 hF ⟨ok, hws⟩
   refine WP_ws hws ?_
   clear hws s'
   rw [F_lecternref02_word_l0] at hF
   refine Zqch ?_
   refine Zqc0 ?_
   refine C_if rfl hF (fun hb16 hF => ?_) fun hb16 hF => ?_
   ·refine Zqem ?_
    refine Zqb1 ?_
    refine S_bld (v := .agg (List.map D.str ([([108, 116, 59] : List UInt8), ([103, 116, 59] : List UInt8), ([97, 109, 112, 59] : List UInt8), ([97, 112, 111, 115, 59] : List UInt8), ([113, 117, 111, 116, 59] : List UInt8)] : List (List UInt8)))) (b_arr ty_zc_137 ty_pl_137 ty_ar_137 ty_sz_9 rfl) ?_
    refine Zqah ?_
    refine S_ixN (g := D.str) rfl rfl ty_ar_137 ty_sz_9 ty_ag_9 hF (fun x17 _ hF => ?_)
    refine Zqe4 ?_
    refine Zqb7 ?_
    refine Zqe0 ?_
    refine Zqdw ?_
    refine Zqa8 ?_
    refine Zqam ?_
    refine S_twoJ 11 33 hF (fun J19 hb18 hF => ?_) (fun J19 hb18 hF => ?_) (fun v20 hF => ?_)
    ·refine Zqek ?_
     refine Zqcc ?_
     refine Zqcr ?_
     refine Zqa9 ?_
     refine Zqb4 ?_
     refine Zqe5 ?_
     refine S_slL rfl ty_sl_22 ty_sz_5 (bd_at rfl) (bd_at rfl) hF (fun x21 _ hF => ?_)
     refine Zqb4 ?_
     refine Zqbe ?_
     refine Zqb4 ?_
     refine Zqcr ?_
     refine Zqgf ?_
     exact tw
    ·refine Zqck ?_
     refine Zqf3 ?_
     exact tw
    ·refine Zqaa ?_
     refine C_if rfl hF (fun hb22 hF => ?_) fun hb22 hF => ?_
     ·refine Zqb1 ?_
      refine S_bld (v := .agg (List.map (D.int .i64) ([(60 : Int), (62 : Int), (38 : Int), (39 : Int), (34 : Int)] : List Int))) (b_arr ty_zc_138 ty_pl_138 ty_ar_138 ty_sz_3 rfl) ?_
      refine Zqah ?_
      refine S_ixN (g := (D.int .i64)) rfl rfl ty_ar_138 ty_sz_3 ty_ag_3 hF (fun x23 _ hF => ?_)
      refine Zqah ?_
      refine Zqe0 ?_
      refine Zqcf ?_
      replace hF := hG13 _ (F_some hF)
      exact rt
     ·refine Zqal ?_
      refine Zqd2 ?_
      refine ih15 (IntKind.wrap .i64 (a11 + (1 : Int))) _ hF ?_
      exact ⟨oy ok, wy ok⟩
   ·refine Zqcs ?_
    replace hF := hG13 _ (F_some hF)
    exact ⟨(), hF, oy ok, wy ok⟩
 ·rintro ⟨⟩ s' hF ⟨ok, hws⟩
  refine WP_ws hws ?_
  clear hws s'
  refine Zqd6 ?_
  exact rt
theorem F_lecternref02_word_ok {β : Type} {f : Int × Int → Option β} {G : β → Prop} {R : D → Heap → Prop} {p0 : List UInt8} {p1 : Int} (h : Heap) (hF : OptP ((F_lecternref02_word p0 p1).bind f) G) (hk : ∀ r, F_lecternref02_word p0 p1 = some r → OptP (f r) G → R (.tup [.int .i64 r.1, .int .i64 r.2]) h) : CallsA Tryz.prog 86 [.sl 1 (List.map c_u8 p0) 0, .int .i64 p1] h R := by
 obtain ⟨r0, hr, hF⟩ := F_bind hF
 refine (F_lecternref02_word_w (G := fun r => r = r0) p0 p1 h ⟨r0, hr, rfl⟩).mono ?_
 rintro _ _ ⟨r, rfl, rfl, rfl⟩
 exact hk _ hr hF
theorem F_lecternref02_hex_w (p0 : Int) {G : Int → Prop} (h : Heap) (hF : OptP (F_lecternref02_hex p0) G) : CallsA Tryz.prog 87 [.int .u8 p0] h fun d h' => ∃ r, G r ∧ d = .int .i64 r ∧ h' = h := by
 refine CallsA.ret ?_
 refine C_body Tryz.func87 rfl en_87 Tryz.ntmps87 rfl (fun ok => ?_)
 rw [F_lecternref02_hex] at hF
 refine Zqcx ?_
 refine Zqch ?_
 refine Zqc6 ?_
 refine S_two (b := (decide ((48 : Int) ≤ p0))) 3 8 (.bool ((decide ((48 : Int) ≤ p0)) && (decide (p0 ≤ (57 : Int))))) (fun hb1 => ?_) (fun hb1 => ?_) ?_
 ·refine Zqdm ?_
  exact th
 ·refine Zqcv ?_
  exact th
 refine Zqaa ?_
 refine C_if rfl hF (fun hb2 hF => ?_) fun hb2 hF => ?_
 ·refine Zqb7 ?_
  refine Zqbo ?_
  refine Zqbf ?_
  refine Zqca ?_
  exact rt
 ·refine Zqgl ?_
  refine Zqc6 ?_
  refine S_two (b := (decide ((97 : Int) ≤ p0))) 3 17 (.bool ((decide ((97 : Int) ≤ p0)) && (decide (p0 ≤ (102 : Int))))) (fun hb3 => ?_) (fun hb3 => ?_) ?_
  ·refine Zqdm ?_
   exact th
  ·refine Zqcv ?_
   exact th
  refine Zqaa ?_
  refine C_if rfl hF (fun hb4 hF => ?_) fun hb4 hF => ?_
  ·refine Zqb7 ?_
   refine Zqbo ?_
   refine Zqbf ?_
   refine Zqat ?_
   refine Zqca ?_
   exact rt
  ·refine Zqgl ?_
   refine Zqc6 ?_
   refine S_two (b := (decide ((65 : Int) ≤ p0))) 3 27 (.bool ((decide ((65 : Int) ≤ p0)) && (decide (p0 ≤ (70 : Int))))) (fun hb5 => ?_) (fun hb5 => ?_) ?_
   ·refine Zqdm ?_
    exact th
   ·refine Zqcv ?_
    exact th
   refine Zqaa ?_
   refine C_if rfl hF (fun hb6 hF => ?_) fun hb6 hF => ?_
   ·refine Zqb7 ?_
    refine Zqbo ?_
    refine Zqbf ?_
    refine Zqat ?_
    refine Zqca ?_
    exact rt
   ·refine Zqal ?_
    refine Zqdo ?_
    exact rt
theorem F_lecternref02_hex_ok {β : Type} {f : Int → Option β} {G : β → Prop} {R : D → Heap → Prop} {p0 : Int} (h : Heap) (hF : OptP ((F_lecternref02_hex p0).bind f) G) (hk : ∀ r, F_lecternref02_hex p0 = some r → OptP (f r) G → R (.int .i64 r) h) : CallsA Tryz.prog 87 [.int .u8 p0] h R := by
 obtain ⟨r0, hr, hF⟩ := F_bind hF
 refine (F_lecternref02_hex_w (G := fun r => r = r0) p0 h ⟨r0, hr, rfl⟩).mono ?_
 rintro _ _ ⟨r, rfl, rfl, rfl⟩
 exact hk _ hr hF
end Go.Proofs.YtfokkdofcekdbaaGreatDoor
