/- The walks. No condition. -/
import Derived.Test.YtfokkdofcekdbaaGreatDoorWk1
set_option linter.unusedVariables false
set_option linter.unusedSimpArgs false
set_option maxRecDepth 20000
set_option maxHeartbeats 8000000
namespace Go.Proofs.YtfokkdofcekdbaaGreatDoor
theorem F_lecternref02_Expand_w (p0 : List UInt8) (p1 : Int) {G : Int × Int × Int → Prop} (h : Heap) (hF : OptP (F_lecternref02_Expand p0 p1) G) : CallsA Tryz.prog 64 [.sl 1 (List.map c_u8 p0) 0, .int .i64 p1] h fun d h' => ∃ r, G r ∧ d = .tup [.int .i64 r.1, .int .i64 r.2.1, .int .i64 r.2.2] ∧ h' = h := by
 refine CallsA.ret ?_
 refine C_body Tryz.func64 rfl en_64 Tryz.ntmps64 rfl (fun ok => ?_)
 rw [F_lecternref02_Expand] at hF
 refine Zqb1 ?_
 refine Zqfp ?_
 refine Zqcu ?_
 refine Zqcm ?_
 refine cl (F_lecternref02_word_ok _ hF fun x1 _ hF => ?_)
 refine Zqgj ?_
 refine Zqbg ?_
 refine Zqaa ?_
 refine C_if rfl hF (fun hb2 hF => ?_) fun hb2 hF => ?_
 ·refine Zqd5 ?_
  refine Zqeg ?_
  exact rt
 ·refine Zqfl ?_
  refine Zqat ?_
  refine Zqb5 ?_
  refine Zqcx ?_
  refine Zqfi ?_
  refine Zqc6 ?_
  refine S_twoJ 6 36 hF (fun J4 hb3 hF => ?_) (fun J4 hb3 hF => ?_) (fun v5 hF => ?_)
  ·refine Zqfn ?_
   exact tw
  ·refine Zqek ?_
   refine S_ix rfl rfl ty_sl_22 ty_sz_5 hF (fun x6 _ hF => ?_)
   refine Zqd4 ?_
   refine Zqgk ?_
   exact tw
  ·refine Zqaa ?_
   refine C_if rfl hF (fun hb7 hF => ?_) fun hb7 hF => ?_
   ·refine Zqfh ?_
    exact rt
   ·refine Zqfl ?_
    refine Zqat ?_
    refine Zqb5 ?_
    refine C_join hF (fun (v : Int × Int) s' => match v with | (a13, a14) => OK h [] ∧ WS s' ⟨mkSl 109 [(0, .sl 1 (List.map c_u8 p0) 0), (9, .int .i64 a13), (10, .int .i64 a14)], Hp h []⟩) (fun J15 hF => ?_) ?_
    ·refine Zqb7 ?_
     refine Zqdw ?_
     refine Zqen ?_
     refine S_twoJ 6 49 hF (fun J17 hb16 hF => ?_) (fun J17 hb16 hF => ?_) (fun v18 hF => ?_)
     ·refine Zqek ?_
      refine S_ix rfl rfl ty_sl_22 ty_sz_5 hF (fun x19 _ hF => ?_)
      refine Zqf4 ?_
      exact tw
     ·refine Zqeh ?_
      exact tw
     ·refine Zqaa ?_
      refine C_if rfl hF (fun hb20 hF => ?_) fun hb20 hF => ?_
      ·refine Zqcx ?_
       refine Zqd2 ?_
       exact ⟨((IntKind.wrap .i64 ((IntKind.wrap .i64 ((IntKind.wrap .i64 (p1 + (1 : Int))) + (1 : Int))) + (1 : Int))), (16 : Int)), hF, oy ok, wy ok⟩
      ·refine Zqal ?_
       exact ⟨((IntKind.wrap .i64 ((IntKind.wrap .i64 (p1 + (1 : Int))) + (1 : Int))), (10 : Int)), hF, oy ok, wy ok⟩
    ·rintro ⟨a13, a14⟩ s' hF ⟨ok, hws⟩
     refine WP_ws hws ?_
     clear hws s'
     refine Zqcx ?_
     refine Zqcx ?_
     refine C_join hF (fun (v : Int × Int × Int) s' => match v with | (a42, a43, a44) => OK h [] ∧ WS s' ⟨mkSl 109 [(0, .sl 1 (List.map c_u8 p0) 0), (9, .int .i64 a42), (11, .int .i64 a43), (12, .int .i64 a44)], Hp h []⟩) (fun J45 hF => ?_) ?_
     ·refine Zqaw ?_
      refine C_loop (σ := Int × Int × Int) hF (fun (v : Int × Int × Int) s' => match v with | (a46, a47, a48) => OK h [] ∧ WS s' ⟨mkSl 109 [(0, .sl 1 (List.map c_u8 p0) 0), (9, .int .i64 a46), (10, .int .i64 a14), (11, .int .i64 a47), (12, .int .i64 a48)], Hp h []⟩) ?_ ?_
      ·exact ⟨oy ok, wy ok⟩
      ·rintro G49 hG50 rec51 ⟨a46, a47, a48⟩ s' ih52 hF ⟨ok, hws⟩
       refine WP_ws hws ?_
       clear hws s'
       rw [F_lecternref02_Expand_l0] at hF
       refine Zqfi ?_
       refine Zqen ?_
       refine S_twoJ 7 63 hF (fun J54 hb53 hF => ?_) (fun J54 hb53 hF => ?_) (fun v55 hF => ?_)
       ·refine Zqek ?_
        refine S_ix rfl rfl ty_sl_22 ty_sz_5 hF (fun x56 _ hF => ?_)
        refine Zqd4 ?_
        refine Zqb4 ?_
        refine cl (F_lecternref02_hex_ok _ hF fun x57 _ hF => ?_)
        refine Zqb4 ?_
        refine Zqa0 ?_
        refine Zqci ?_
        exact tw
       ·refine Zqf3 ?_
        exact tw
       ·refine Zqam ?_
        refine S_twoJ 8 72 hF (fun J59 hb58 hF => ?_) (fun J59 hb58 hF => ?_) (fun v60 hF => ?_)
        ·refine Zqek ?_
         refine S_ix rfl rfl ty_sl_22 ty_sz_5 hF (fun x61 _ hF => ?_)
         refine Zqd4 ?_
         refine Zqb4 ?_
         refine cl (F_lecternref02_hex_ok _ hF fun x62 _ hF => ?_)
         refine Zqb4 ?_
         refine Zqcc ?_
         refine Zqf7 ?_
         exact tw
        ·refine Zqck ?_
         refine Zqeq ?_
         exact tw
        ·refine Zqaa ?_
         refine C_if rfl hF (fun hb63 hF => ?_) fun hb63 hF => ?_
         ·refine Zqea ?_
          refine C_join hF (fun (a67 : Int) s' => OK h [] ∧ WS s' ⟨mkSl 109 [(0, .sl 1 (List.map c_u8 p0) 0), (9, .int .i64 a46), (10, .int .i64 a14), (11, .int .i64 a67), (12, .int .i64 a48)], Hp h []⟩) (fun J68 hF => ?_) ?_
          ·refine Zqb7 ?_
           refine Zqc0 ?_
           refine C_if rfl hF (fun hb69 hF => ?_) fun hb69 hF => ?_
           ·refine Zqdj ?_
            refine Zqah ?_
            refine S_bin rfl rfl (ev_mul ..) ?_
            refine Zqgi ?_
            refine S_ix rfl rfl ty_sl_22 ty_sz_5 hF (fun x70 _ hF => ?_)
            refine Zqbc ?_
            refine cl (F_lecternref02_hex_ok _ hF fun x71 _ hF => ?_)
            refine Zqat ?_
            refine Zqb5 ?_
            exact ⟨(IntKind.wrap .i64 ((IntKind.wrap .i64 (a14 * a47)) + x71)), hF, oy ok, wy ok⟩
           ·refine Zqal ?_
            exact ⟨a47, hF, oy ok, wy ok⟩
          ·rintro a67 s' hF ⟨ok, hws⟩
           refine WP_ws hws ?_
           clear hws s'
           refine Zqb7 ?_
           refine Zqat ?_
           refine Zqb5 ?_
           refine Zqd2 ?_
           refine ih52 ((IntKind.wrap .i64 (a46 + (1 : Int))), a67, (IntKind.wrap .i64 (a48 + (1 : Int)))) _ hF ?_
           exact ⟨oy ok, wy ok⟩
         ·refine Zqcs ?_
          replace hF := hG50 _ (F_some hF)
          exact ⟨(a46, a47, a48), hF, oy ok, wy ok⟩
     ·rintro ⟨a42, a43, a44⟩ s' hF ⟨ok, hws⟩
      refine WP_ws hws ?_
      clear hws s'
      refine Zqch ?_
      refine Zqdr ?_
      refine S_two (b := (a44 == (0 : Int))) 5 95 (.bool ((a44 == (0 : Int)) || (decide ((p0.length : Int) ≤ a42)))) (fun hb72 => ?_) (fun hb72 => ?_) ?_
      ·refine Zqf6 ?_
       exact th
      ·refine Zqce ?_
       refine Zqc3 ?_
       refine Zqez ?_
       refine Zqa0 ?_
       refine Zqcp ?_
       exact th
      refine Zqam ?_
      refine S_twoJ 6 102 hF (fun J74 hb73 hF => ?_) (fun J74 hb73 hF => ?_) (fun v75 hF => ?_)
      ·refine Zqfn ?_
       exact tw
      ·refine Zqek ?_
       refine S_ix rfl rfl ty_sl_22 ty_sz_5 hF (fun x76 _ hF => ?_)
       refine Zqd4 ?_
       refine Zqgk ?_
       exact tw
      ·refine Zqaa ?_
       refine C_if rfl hF (fun hb77 hF => ?_) fun hb77 hF => ?_
       ·refine Zqfh ?_
        exact rt
       ·refine Zqgl ?_
        refine cl (F_lecternref01_Char_ok _ hF fun x78 _ hF => ?_)
        refine Zqei ?_
        refine C_if rfl hF (fun hb79 hF => ?_) fun hb79 hF => ?_
        ·refine Zqfh ?_
         exact rt
        ·refine Zqfl ?_
         refine Zqcm ?_
         refine Zqeg ?_
         exact rt
theorem F_lecternref02_Expand_ok {β : Type} {f : Int × Int × Int → Option β} {G : β → Prop} {R : D → Heap → Prop} {p0 : List UInt8} {p1 : Int} (h : Heap) (hF : OptP ((F_lecternref02_Expand p0 p1).bind f) G) (hk : ∀ r, F_lecternref02_Expand p0 p1 = some r → OptP (f r) G → R (.tup [.int .i64 r.1, .int .i64 r.2.1, .int .i64 r.2.2]) h) : CallsA Tryz.prog 64 [.sl 1 (List.map c_u8 p0) 0, .int .i64 p1] h R := by
 obtain ⟨r0, hr, hF⟩ := F_bind hF
 refine (F_lecternref02_Expand_w (G := fun r => r = r0) p0 p1 h ⟨r0, hr, rfl⟩).mono ?_
 rintro _ _ ⟨r, rfl, rfl, rfl⟩
 exact hk _ hr hF
theorem F_lecternref02_Read_w (p0 : List UInt8) (p1 : Bool) {G : (List UInt8) × Int × Int → Prop} (h : Heap) (hF : OptP (F_lecternref02_Read p0 p1) G) : CallsA Tryz.prog 41 [.sl 1 (List.map c_u8 p0) 0, .bool p1] h fun d h' => ∃ r, G r ∧ d = .tup [.str r.1, .int .i64 r.2.1, .int .i64 r.2.2] ∧ h' = h := by
 refine CallsA.ret ?_
 refine C_body Tryz.func41 rfl en_41 Tryz.ntmps41 rfl (fun ok => ?_)
 rw [F_lecternref02_Read] at hF
 refine Zqb1 ?_
 refine S_a (v := .str ([] : List UInt8)) rfl ?_
 refine Zqfr ?_
 refine C_reg (mdl [(13, 2)]) ?_
 refine S_lit2 (es := List.map c_u8 []) ok rfl ty_el_22 rfl rfl (by simp only [List.map_cons, List.map_nil, c_u8, ]; rfl) ?_
 intro r1 hr1 ok
 refine Zqd0 ?_
 refine C_join hF (fun (a45 : (List UInt8)) s' => ∃ g46 : Nat, g46 ≠ 0 ∧ OK h [(g46, .room)] ∧ WS s' ⟨mkSl 103 [(7, .sl 1 (List.map c_u8 a45) g46)], Hp h [(g46, .room)]⟩) (fun J47 hF => ?_) ?_
 ·refine Zqd9 ?_
  refine C_loop (σ := (List UInt8) × Int) hF (fun (v : (List UInt8) × Int) s' => match v with | (a48, a50) => ∃ g49 : Nat, g49 ≠ 0 ∧ OK h [(g49, .room)] ∧ WS s' ⟨mkSl 103 [(0, .sl 1 (List.map c_u8 p0) 0), (1, .bool p1), (7, .sl 1 (List.map c_u8 a48) g49), (8, .int .i64 a50)], Hp h [(g49, .room)]⟩) ?_ ?_
  ·exact ⟨r1, hr1, oy ok, wy ok⟩
  ·rintro G51 hG52 rec53 ⟨a48, a50⟩ s' ih54 hF ⟨g49, hg49, ok, hws⟩
   refine WP_ws hws ?_
   clear hws s'
   rw [F_lecternref02_Read_l0] at hF
   refine Zqf8 ?_
   refine C_if rfl hF (fun hb55 hF => ?_) fun hb55 hF => ?_
   ·refine Zqea ?_
    refine Zqd8 ?_
    refine cl (F_lecternref01_Read_ok _ hF fun x56 _ hF => ?_)
    refine Zqgj ?_
    refine Zqdy ?_
    refine C_if rfl hF (fun hb57 hF => ?_) fun hb57 hF => ?_
    ·refine Zqb7 ?_
     refine S_a (v := .str ([] : List UInt8)) rfl ?_
     refine Zqcf ?_
     replace hF := hG52 _ (F_some hF)
     exact rt
    ·refine Zqgl ?_
     refine cl (F_lecternref01_Char_ok _ hF fun x58 _ hF => ?_)
     refine Zqei ?_
     refine C_if rfl hF (fun hb59 hF => ?_) fun hb59 hF => ?_
     ·refine Zqb7 ?_
      refine S_a (v := .str ([] : List UInt8)) rfl ?_
      refine Zqcf ?_
      replace hF := hG52 _ (F_some hF)
      exact rt
     ·refine Zqgl ?_
      refine Zqdr ?_
      refine S_twoJ 30 63 hF (fun J61 hb60 hF => ?_) (fun J61 hb60 hF => ?_) (fun v62 hF => ?_)
      ·refine Zqdz ?_
       refine Zqb6 ?_
       refine Zqfa ?_
       refine Zqcg ?_
       refine Zqb6 ?_
       refine Zqfa ?_
       refine Zqcy ?_
       refine Zqb6 ?_
       refine Zqfa ?_
       refine Zqcy ?_
       refine Zqee ?_
       exact tw
      ·refine Zqb2 ?_
       refine Zqam ?_
       refine Zqdl ?_
       refine Zqdp ?_
       refine S_two (b := (!p1)) 3 39 (.bool ((!p1) && (x56.1 == (93 : Int)))) (fun hb63 => ?_) (fun hb63 => ?_) ?_
       ·refine Zqda ?_
        refine Zqdv ?_
        exact th
       ·refine Zqej ?_
        exact th
       refine Zqf0 ?_
       refine S_two (b := ((!p1) && (x56.1 == (93 : Int)))) 6 46 (.bool (((!p1) && (x56.1 == (93 : Int))) && (decide ((IntKind.wrap .i64 (a50 + (2 : Int))) < (p0.length : Int))))) (fun hb64 => ?_) (fun hb64 => ?_) ?_
       ·refine Zqce ?_
        refine Zqe5 ?_
        refine Zqc3 ?_
        refine Zqez ?_
        refine Zqay ?_
        refine Zqdv ?_
        exact th
       ·refine Zqdf ?_
        refine Zqdq ?_
        exact th
       refine Zqf0 ?_
       refine S_twoJ 7 54 hF (fun J66 hb65 hF => ?_) (fun J66 hb65 hF => ?_) (fun v67 hF => ?_)
       ·refine Zqek ?_
        refine Zqe5 ?_
        refine S_ix rfl rfl ty_sl_22 ty_sz_5 hF (fun x68 _ hF => ?_)
        refine Zqd4 ?_
        refine Zqdn ?_
        refine Zqdv ?_
        exact tw
       ·refine Zqck ?_
        refine Zqej ?_
        exact tw
       ·refine Zqf0 ?_
        refine S_twoJ 7 62 hF (fun J70 hb69 hF => ?_) (fun J70 hb69 hF => ?_) (fun v71 hF => ?_)
        ·refine Zqek ?_
         refine Zqe5 ?_
         refine S_ix rfl rfl ty_sl_22 ty_sz_5 hF (fun x72 _ hF => ?_)
         refine Zqd4 ?_
         refine Zqdn ?_
         refine Zqdv ?_
         exact tw
        ·refine Zqck ?_
         refine Zqej ?_
         exact tw
        ·refine Zqb9 ?_
         exact tw
      ·refine Zqaa ?_
       refine C_if rfl hF (fun hb73 hF => ?_) fun hb73 hF => ?_
       ·refine Zqb7 ?_
        refine S_a (v := .str ([] : List UInt8)) rfl ?_
        refine Zqcf ?_
        replace hF := hG52 _ (F_some hF)
        exact rt
       ·refine Zqfl ?_
        refine Zqdk ?_
        refine C_join hF (fun (v : Int × Int) s' => match v with | (a83, a84) => OK h [(g49, .room)] ∧ WS s' ⟨mkSl 103 [(0, .sl 1 (List.map c_u8 p0) 0), (1, .bool p1), (7, .sl 1 (List.map c_u8 a48) g49), (9, .int .i64 a83), (11, .int .i64 a84)], Hp h [(g49, .room)]⟩) (fun J85 hF => ?_) ?_
        ·refine Zqb7 ?_
         refine Zqdy ?_
         refine C_if rfl hF (fun hb86 hF => ?_) fun hb86 hF => ?_
         ·refine Zqcx ?_
          refine Zqd8 ?_
          refine cl (F_lecternref02_Expand_ok _ hF fun x87 _ hF => ?_)
          refine Zqdt ?_
          refine Zqfp ?_
          refine Zqb7 ?_
          refine Zqdd ?_
          refine C_if rfl hF (fun hb88 hF => ?_) fun hb88 hF => ?_
          ·refine Zqd5 ?_
           refine S_a (v := .str ([] : List UInt8)) rfl ?_
           refine Zqcf ?_
           replace hF := hG52 _ (F_some hF)
           exact rt
          ·refine Zqal ?_
           exact ⟨(x87.1, x87.2.1), hF, oy ok, wy ok⟩
         ·refine Zqe3 ?_
          refine Zqam ?_
          refine S_two (b := p1) 11 93 (.bool (p1 && (((x56.1 == (9 : Int)) || (x56.1 == (10 : Int))) || (x56.1 == (13 : Int))))) (fun hb89 => ?_) (fun hb89 => ?_) ?_
          ·refine Zqda ?_
           refine Zqdp ?_
           refine S_two (b := (x56.1 == (9 : Int))) 3 88 (.bool ((x56.1 == (9 : Int)) || (x56.1 == (10 : Int)))) (fun hb92 => ?_) (fun hb92 => ?_) ?_
           ·refine Zqb6 ?_
            refine Zqfo ?_
            exact th
           ·refine Zqda ?_
            refine Zqfz ?_
            exact th
           refine Zqf0 ?_
           refine S_two (b := ((x56.1 == (9 : Int)) || (x56.1 == (10 : Int)))) 3 92 (.bool (((x56.1 == (9 : Int)) || (x56.1 == (10 : Int))) || (x56.1 == (13 : Int)))) (fun hb93 => ?_) (fun hb93 => ?_) ?_
           ·refine Zqb6 ?_
            refine Zqfo ?_
            exact th
           ·refine Zqda ?_
            refine Zqfz ?_
            exact th
           refine Zqb8 ?_
           exact th
          ·refine Zqdz ?_
           refine Zqb6 ?_
           refine Zqcy ?_
           refine Zqb3 ?_
           refine Zqb9 ?_
           exact th
          refine Zqaa ?_
          refine C_if rfl hF (fun hb94 hF => ?_) fun hb94 hF => ?_
          ·refine Zqac ?_
           refine Zqb5 ?_
           exact ⟨((32 : Int), (IntKind.wrap .i64 (a50 + x56.2))), hF, oy ok, wy ok⟩
          ·refine Zqal ?_
           exact ⟨(x56.1, (IntKind.wrap .i64 (a50 + x56.2))), hF, oy ok, wy ok⟩
        ·rintro ⟨a83, a84⟩ s' hF ⟨ok, hws⟩
         refine WP_ws hws ?_
         clear hws s'
         refine Zqab ?_
         refine C_reg (mdl [(99, 2)]) ?_
         refine Zqgi ?_
         refine Zqby ?_
         refine S_conv rfl (e_cr ty_ki_9 ty_fa_9 ty_st_9 ty_un_21) ?_
         refine Zqbk ?_
         refine S_app (j := 0) ok rfl rfl rfl rfl hg49 ty_el_22 ty_ni_22 hF ?_
         intro r95 hr95 ok hF
         refine Zqd0 ?_
         refine Zqdj ?_
         refine Zqb5 ?_
         refine ih54 ((a48 ++ (Utf8.encode (IntKind.wrap .i32 a83)).data.toList), a84) _ hF ?_
         exact ⟨r95, hr95, oy ok, wy ok⟩
   ·refine Zqcs ?_
    replace hF := hG52 _ (F_some hF)
    exact ⟨a48, hF, g49, hg49, oy ok, wy ok⟩
 ·rintro a45 s' hF ⟨g46, hg46, ok, hws⟩
  refine WP_ws hws ?_
  clear hws s'
  refine Zqcu ?_
  refine S_one 101 (v := .sl 1 (List.map c_u8 a45) 0) (.zero _ _ _) ?_
  refine Zqbe ?_
  refine Zqaz ?_
  refine Zqcf ?_
  exact rt
theorem F_lecternref02_Read_ok {β : Type} {f : (List UInt8) × Int × Int → Option β} {G : β → Prop} {R : D → Heap → Prop} {p0 : List UInt8} {p1 : Bool} (h : Heap) (hF : OptP ((F_lecternref02_Read p0 p1).bind f) G) (hk : ∀ r, F_lecternref02_Read p0 p1 = some r → OptP (f r) G → R (.tup [.str r.1, .int .i64 r.2.1, .int .i64 r.2.2]) h) : CallsA Tryz.prog 41 [.sl 1 (List.map c_u8 p0) 0, .bool p1] h R := by
 obtain ⟨r0, hr, hF⟩ := F_bind hF
 refine (F_lecternref02_Read_w (G := fun r => r = r0) p0 p1 h ⟨r0, hr, rfl⟩).mono ?_
 rintro _ _ ⟨r, rfl, rfl, rfl⟩
 exact hk _ hr hF
theorem F_lecternref03_tag_w (p0 : List UInt8) (p1 : Int) {G : T_lecternref03_Token × Int × Int → Prop} (h : Heap) (hF : OptP (F_lecternref03_tag p0 p1) G) : CallsA Tryz.prog 40 [.str p0, .int .i64 p1] h fun d h' => ∃ r, G r ∧ d = .tup [.agg (c_T_lecternref03_Token r.1), .int .i64 r.2.1, .int .i64 r.2.2] ∧ h' = h := by
 refine CallsA.ret ?_
 refine C_body Tryz.func40 rfl en_40 Tryz.ntmps40 rfl (fun ok => ?_)
 rw [F_lecternref03_tag] at hF
 refine Zqab ?_
 refine C_reg (mdl [(4, 1)]) ?_
 refine S_all1 ok rfl ty_zc_37 ?_
 intro i1 hi1 ok
 refine Zqcn ?_
 refine Zqct ?_
 refine cl (F_lecternref03_written_ok _ hF fun x2 _ hF => ?_)
 refine Zqgn ?_
 refine C_if rfl hF (fun hb3 hF => ?_) fun hb3 hF => ?_
 ·refine Zqb1 ?_
  refine S_bld (v := .agg [.int .i64 (0 : Int), .int .i64 (0 : Int), .str ([] : List UInt8), .snil, .str ([] : List UInt8), .int .i64 (0 : Int)]) (b_st ty_zc_37 ty_pl_37 rfl) ?_
  refine S_one 30 (v := .agg (c_T_lecternref03_Token (⟨(0 : Int), (0 : Int), ([] : List UInt8), ([] : List T_scan_Pair), ([] : List UInt8), (0 : Int)⟩ : T_lecternref03_Token))) (.aggC (.cons (.refl _) (.cons (.refl _) (.cons (.refl _) (.cons (.nil _) (.cons (.refl _) (.cons (.refl _) (.nil)))))))) ?_
  refine Zqah ?_
  refine S_st (j := 0) (cs' := [.int .i64 (⟨(0 : Int), (0 : Int), ([] : List UInt8), ([] : List T_scan_Pair), ([] : List UInt8), (0 : Int)⟩ : T_lecternref03_Token).Kind, .int .i64 (⟨(0 : Int), (0 : Int), ([] : List UInt8), ([] : List T_scan_Pair), ([] : List UInt8), (0 : Int)⟩ : T_lecternref03_Token).At, .str (⟨(0 : Int), (0 : Int), ([] : List UInt8), ([] : List T_scan_Pair), ([] : List UInt8), (0 : Int)⟩ : T_lecternref03_Token).Name, .sl 2 (List.map c_T_scan_Pair (⟨(0 : Int), (0 : Int), ([] : List UInt8), ([] : List T_scan_Pair), ([] : List UInt8), (0 : Int)⟩ : T_lecternref03_Token).Pairs) 0, .str (⟨(0 : Int), (0 : Int), ([] : List UInt8), ([] : List T_scan_Pair), ([] : List UInt8), (0 : Int)⟩ : T_lecternref03_Token).Text, .int .i64 (⟨(0 : Int), (0 : Int), ([] : List UInt8), ([] : List T_scan_Pair), ([] : List UInt8), (0 : Int)⟩ : T_lecternref03_Token).Refs]) ok rfl rfl rfl hi1 rfl ty_sz_37 rfl rfl (fun ok => ?_)
  refine Zqcf ?_
  refine xr ?_
  refine C_ret (fn := Tryz.f40) rfl (.cell rfl (ld_ptr (j := 0) ok rfl hi1 (p_agg (vs := [.int .i64 (⟨(0 : Int), (0 : Int), ([] : List UInt8), ([] : List T_scan_Pair), ([] : List UInt8), (0 : Int)⟩ : T_lecternref03_Token).Kind, .int .i64 (⟨(0 : Int), (0 : Int), ([] : List UInt8), ([] : List T_scan_Pair), ([] : List UInt8), (0 : Int)⟩ : T_lecternref03_Token).At, .str (⟨(0 : Int), (0 : Int), ([] : List UInt8), ([] : List T_scan_Pair), ([] : List UInt8), (0 : Int)⟩ : T_lecternref03_Token).Name, .sl 2 (List.map c_T_scan_Pair (⟨(0 : Int), (0 : Int), ([] : List UInt8), ([] : List T_scan_Pair), ([] : List UInt8), (0 : Int)⟩ : T_lecternref03_Token).Pairs) 0, .str (⟨(0 : Int), (0 : Int), ([] : List UInt8), ([] : List T_scan_Pair), ([] : List UInt8), (0 : Int)⟩ : T_lecternref03_Token).Text, .int .i64 (⟨(0 : Int), (0 : Int), ([] : List UInt8), ([] : List T_scan_Pair), ([] : List UInt8), (0 : Int)⟩ : T_lecternref03_Token).Refs]) ty_ag_37 ty_sz_37 rfl rfl)) (.tmp (v := .int .i64 (0 : Int)) rfl (.tmp (v := .int .i64 x2.2.2) rfl .nil))) ?_
  exact ⟨_, _, (.tupC (.cons (.aggC (.cons (.refl _) (.cons (.refl _) (.cons (.refl _) (.cons (.refl _) (.cons (.refl _) (.cons (.refl _) (.nil)))))))) (.cons (.refl _) (.cons (.refl _) (.nil))))), ok.wh, _, F_some hF, rfl, rfl⟩
 ·refine Zqc2 ?_
  refine C_reg (mdl [(10, 1)]) ?_
  refine Zqak ?_
  refine S_bld (v := .agg [.int .i64 (2 : Int), .int .i64 (0 : Int), .str x2.1, .snil, .str ([] : List UInt8), .int .i64 (0 : Int)]) (b_st ty_zc_37 ty_pl_37 rfl) ?_
  refine S_all1 ok rfl ty_zc_37 ?_
  intro i4 hi4 ok
  refine S_st (j := 0) (cs' := [.int .i64 (2 : Int), .int .i64 (0 : Int), .str x2.1, .snil, .str ([] : List UInt8), .int .i64 (0 : Int)]) ok rfl rfl rfl hi4 rfl ty_sz_37 rfl rfl (fun ok => ?_)
  refine S_ghostO 0 3 2 (fun r5 => [.int .i64 (2 : Int), .int .i64 (0 : Int), .str x2.1, .sl 2 (List.map c_T_scan_Pair ([] : List T_scan_Pair)) r5, .str ([] : List UInt8), .int .i64 (0 : Int)]) ok rfl hi4 rfl (fun _ => rfl) ?_
  intro r5 hr5 ok
  refine Zqaa ?_
  refine Zqaw ?_
  refine C_loop (σ := Int × Int × (List UInt8) × (List T_scan_Pair) × (List UInt8) × Int × Int × Int × Int × (List UInt8) × (List T_scan_Pair) × (List UInt8) × Int) hF (fun (v : Int × Int × (List UInt8) × (List T_scan_Pair) × (List UInt8) × Int × Int × Int × Int × (List UInt8) × (List T_scan_Pair) × (List UInt8) × Int) s' => match v with | (a6, a7, a8, a9, a10, a11, a12, a13, a14, a15, a16, a18, a19) => ∃ g17 : Nat, g17 ≠ 0 ∧ OK h [(g17, .room), (i4, .cells [.int .i64 a13, .int .i64 a14, .str a15, .sl 2 (List.map c_T_scan_Pair a16) g17, .str a18, .int .i64 a19]), (i1, .cells [.int .i64 a6, .int .i64 a7, .str a8, .sl 2 (List.map c_T_scan_Pair a9) 0, .str a10, .int .i64 a11])] ∧ WS s' ⟨mkSl 107 [(0, .str p0), (4, .ptr i1 0), (8, .int .i64 a12), (10, .ptr i4 0)], Hp h [(g17, .room), (i4, .cells [.int .i64 a13, .int .i64 a14, .str a15, .sl 2 (List.map c_T_scan_Pair a16) g17, .str a18, .int .i64 a19]), (i1, .cells [.int .i64 a6, .int .i64 a7, .str a8, .sl 2 (List.map c_T_scan_Pair a9) 0, .str a10, .int .i64 a11])]⟩) ?_ ?_
  ·have hwo : WO [(r5, .room), (i4, .cells [.int .i64 (2 : Int), .int .i64 (0 : Int), .str x2.1, .sl 2 (List.map c_T_scan_Pair ([] : List T_scan_Pair)) r5, .str ([] : List UInt8), .int .i64 (0 : Int)]), (i1, .cells [.int .i64 (0 : Int), .int .i64 (0 : Int), .str ([] : List UInt8), .snil, .str ([] : List UInt8), .int .i64 (0 : Int)])] [(r5, .room), (i4, .cells [.int .i64 (2 : Int), .int .i64 (0 : Int), .str x2.1, .sl 2 (List.map c_T_scan_Pair ([] : List T_scan_Pair)) r5, .str ([] : List UInt8), .int .i64 (0 : Int)]), (i1, .cells [.int .i64 (0 : Int), .int .i64 (0 : Int), .str ([] : List UInt8), .sl 2 (List.map c_T_scan_Pair ([] : List T_scan_Pair)) 0, .str ([] : List UInt8), .int .i64 (0 : Int)])] := (.keep (.keep (.weak (.cons (.refl _) (.cons (.refl _) (.cons (.refl _) (.cons (.nil _) (.cons (.refl _) (.cons (.refl _) (.nil))))))) .nil)))
   exact ⟨r5, hr5, (hwo.spec ok).1, WS.mk' (.cons (.refl _) (.cons (.refl _) (.cons (.refl _) (.cons (.refl _) .nil)))) ok hwo⟩
  ·rintro G20 hG21 rec22 ⟨a6, a7, a8, a9, a10, a11, a12, a13, a14, a15, a16, a18, a19⟩ s' ih23 hF ⟨g17, hg17, ok, hws⟩
   refine WP_ws hws ?_
   clear hws s'
   rw [F_lecternref03_tag_l0] at hF
   refine Zqaw ?_
   refine Zqct ?_
   refine cl (F_lecternref03_White_ok _ hF fun x24 _ hF => ?_)
   refine Zqeu ?_
   refine Zqct ?_
   refine cl (F_lecternref03_Stands_ok _ hF fun x25 _ hF => ?_)
   refine Zqaa ?_
   refine C_if rfl hF (fun hb26 hF => ?_) fun hb26 hF => ?_
   ·refine Zqb1 ?_
    refine S_ldP (j := 1) ok rfl rfl rfl hi4 (p_agg (vs := [.int .i64 a13, .int .i64 a14, .str a15, .sl 2 (List.map c_T_scan_Pair a16) g17, .str a18, .int .i64 a19]) ty_ag_37 ty_sz_37 rfl rfl) ?_
    refine S_one 40 (v := .agg (c_T_lecternref03_Token (⟨a13, a14, a15, a16, a18, a19⟩ : T_lecternref03_Token))) (.aggC (.cons (.refl _) (.cons (.refl _) (.cons (.refl _) (.cons (.zero _ _ _) (.cons (.refl _) (.cons (.refl _) (.nil)))))))) ?_
    refine Zqcm ?_
    refine S_st (j := 2) (cs' := [.int .i64 (⟨a13, a14, a15, a16, a18, a19⟩ : T_lecternref03_Token).Kind, .int .i64 (⟨a13, a14, a15, a16, a18, a19⟩ : T_lecternref03_Token).At, .str (⟨a13, a14, a15, a16, a18, a19⟩ : T_lecternref03_Token).Name, .sl 2 (List.map c_T_scan_Pair (⟨a13, a14, a15, a16, a18, a19⟩ : T_lecternref03_Token).Pairs) 0, .str (⟨a13, a14, a15, a16, a18, a19⟩ : T_lecternref03_Token).Text, .int .i64 (⟨a13, a14, a15, a16, a18, a19⟩ : T_lecternref03_Token).Refs]) ok rfl rfl rfl hi1 rfl ty_sz_37 rfl rfl (fun ok => ?_)
    refine Zqcf ?_
    replace hF := hG21 _ (F_some hF)
    refine xr ?_
    refine C_ret (fn := Tryz.f40) rfl (.cell rfl (ld_ptr (j := 2) ok rfl hi1 (p_agg (vs := [.int .i64 (⟨a13, a14, a15, a16, a18, a19⟩ : T_lecternref03_Token).Kind, .int .i64 (⟨a13, a14, a15, a16, a18, a19⟩ : T_lecternref03_Token).At, .str (⟨a13, a14, a15, a16, a18, a19⟩ : T_lecternref03_Token).Name, .sl 2 (List.map c_T_scan_Pair (⟨a13, a14, a15, a16, a18, a19⟩ : T_lecternref03_Token).Pairs) 0, .str (⟨a13, a14, a15, a16, a18, a19⟩ : T_lecternref03_Token).Text, .int .i64 (⟨a13, a14, a15, a16, a18, a19⟩ : T_lecternref03_Token).Refs]) ty_ag_37 ty_sz_37 rfl rfl)) (.tmp (v := .int .i64 (IntKind.wrap .i64 (x24 + (1 : Int)))) rfl (.tmp (v := .int .i64 (0 : Int)) rfl .nil))) ?_
    exact ⟨_, _, (.tupC (.cons (.aggC (.cons (.refl _) (.cons (.refl _) (.cons (.refl _) (.cons (.refl _) (.cons (.refl _) (.cons (.refl _) (.nil)))))))) (.cons (.refl _) (.cons (.refl _) (.nil))))), ok.wh, _, F_some hF, rfl, rfl⟩
   ·refine Zqc2 ?_
    refine Zqct ?_
    refine cl (F_lecternref03_Stands_ok _ hF fun x27 _ hF => ?_)
    refine Zqaa ?_
    refine C_if rfl hF (fun hb28 hF => ?_) fun hb28 hF => ?_
    ·refine Zqb1 ?_
     refine S_faP rfl ty_fd_37_0 ty_sz_3 ?_
     refine S_st (j := 1) (cs' := [.int .i64 (4 : Int), .int .i64 a14, .str a15, .sl 2 (List.map c_T_scan_Pair a16) g17, .str a18, .int .i64 a19]) ok rfl rfl rfl hi4 rfl ty_sz_3 rfl rfl (fun ok => ?_)
     refine Zqaa ?_
     refine Zqb1 ?_
     refine S_ldP (j := 1) ok rfl rfl rfl hi4 (p_agg (vs := [.int .i64 (4 : Int), .int .i64 a14, .str a15, .sl 2 (List.map c_T_scan_Pair a16) g17, .str a18, .int .i64 a19]) ty_ag_37 ty_sz_37 rfl rfl) ?_
     refine S_one 47 (v := .agg (c_T_lecternref03_Token (⟨(4 : Int), a14, a15, a16, a18, a19⟩ : T_lecternref03_Token))) (.aggC (.cons (.refl _) (.cons (.refl _) (.cons (.refl _) (.cons (.zero _ _ _) (.cons (.refl _) (.cons (.refl _) (.nil)))))))) ?_
     refine Zqcm ?_
     refine S_st (j := 2) (cs' := [.int .i64 (⟨(4 : Int), a14, a15, a16, a18, a19⟩ : T_lecternref03_Token).Kind, .int .i64 (⟨(4 : Int), a14, a15, a16, a18, a19⟩ : T_lecternref03_Token).At, .str (⟨(4 : Int), a14, a15, a16, a18, a19⟩ : T_lecternref03_Token).Name, .sl 2 (List.map c_T_scan_Pair (⟨(4 : Int), a14, a15, a16, a18, a19⟩ : T_lecternref03_Token).Pairs) 0, .str (⟨(4 : Int), a14, a15, a16, a18, a19⟩ : T_lecternref03_Token).Text, .int .i64 (⟨(4 : Int), a14, a15, a16, a18, a19⟩ : T_lecternref03_Token).Refs]) ok rfl rfl rfl hi1 rfl ty_sz_37 rfl rfl (fun ok => ?_)
     refine Zqcf ?_
     replace hF := hG21 _ (F_some hF)
     refine xr ?_
     refine C_ret (fn := Tryz.f40) rfl (.cell rfl (ld_ptr (j := 2) ok rfl hi1 (p_agg (vs := [.int .i64 (⟨(4 : Int), a14, a15, a16, a18, a19⟩ : T_lecternref03_Token).Kind, .int .i64 (⟨(4 : Int), a14, a15, a16, a18, a19⟩ : T_lecternref03_Token).At, .str (⟨(4 : Int), a14, a15, a16, a18, a19⟩ : T_lecternref03_Token).Name, .sl 2 (List.map c_T_scan_Pair (⟨(4 : Int), a14, a15, a16, a18, a19⟩ : T_lecternref03_Token).Pairs) 0, .str (⟨(4 : Int), a14, a15, a16, a18, a19⟩ : T_lecternref03_Token).Text, .int .i64 (⟨(4 : Int), a14, a15, a16, a18, a19⟩ : T_lecternref03_Token).Refs]) ty_ag_37 ty_sz_37 rfl rfl)) (.tmp (v := .int .i64 (IntKind.wrap .i64 (x24 + (2 : Int)))) rfl (.tmp (v := .int .i64 (0 : Int)) rfl .nil))) ?_
     exact ⟨_, _, (.tupC (.cons (.aggC (.cons (.refl _) (.cons (.refl _) (.cons (.refl _) (.cons (.refl _) (.cons (.refl _) (.cons (.refl _) (.nil)))))))) (.cons (.refl _) (.cons (.refl _) (.nil))))), ok.wh, _, F_some hF, rfl, rfl⟩
    ·refine Zqal ?_
     refine Zqer ?_
     refine Zqdy ?_
     refine C_if rfl hF (fun hb29 hF => ?_) fun hb29 hF => ?_
     ·refine Zqb1 ?_
      refine S_bld (v := .agg [.int .i64 (0 : Int), .int .i64 (0 : Int), .str ([] : List UInt8), .snil, .str ([] : List UInt8), .int .i64 (0 : Int)]) (b_st ty_zc_37 ty_pl_37 rfl) ?_
      refine S_one 53 (v := .agg (c_T_lecternref03_Token (⟨(0 : Int), (0 : Int), ([] : List UInt8), ([] : List T_scan_Pair), ([] : List UInt8), (0 : Int)⟩ : T_lecternref03_Token))) (.aggC (.cons (.refl _) (.cons (.refl _) (.cons (.refl _) (.cons (.nil _) (.cons (.refl _) (.cons (.refl _) (.nil)))))))) ?_
      refine S_st (j := 2) (cs' := [.int .i64 (⟨(0 : Int), (0 : Int), ([] : List UInt8), ([] : List T_scan_Pair), ([] : List UInt8), (0 : Int)⟩ : T_lecternref03_Token).Kind, .int .i64 (⟨(0 : Int), (0 : Int), ([] : List UInt8), ([] : List T_scan_Pair), ([] : List UInt8), (0 : Int)⟩ : T_lecternref03_Token).At, .str (⟨(0 : Int), (0 : Int), ([] : List UInt8), ([] : List T_scan_Pair), ([] : List UInt8), (0 : Int)⟩ : T_lecternref03_Token).Name, .sl 2 (List.map c_T_scan_Pair (⟨(0 : Int), (0 : Int), ([] : List UInt8), ([] : List T_scan_Pair), ([] : List UInt8), (0 : Int)⟩ : T_lecternref03_Token).Pairs) 0, .str (⟨(0 : Int), (0 : Int), ([] : List UInt8), ([] : List T_scan_Pair), ([] : List UInt8), (0 : Int)⟩ : T_lecternref03_Token).Text, .int .i64 (⟨(0 : Int), (0 : Int), ([] : List UInt8), ([] : List T_scan_Pair), ([] : List UInt8), (0 : Int)⟩ : T_lecternref03_Token).Refs]) ok rfl rfl rfl hi1 rfl ty_sz_37 rfl rfl (fun ok => ?_)
      refine Zqcf ?_
      replace hF := hG21 _ (F_some hF)
      refine xr ?_
      refine C_ret (fn := Tryz.f40) rfl (.cell rfl (ld_ptr (j := 2) ok rfl hi1 (p_agg (vs := [.int .i64 (⟨(0 : Int), (0 : Int), ([] : List UInt8), ([] : List T_scan_Pair), ([] : List UInt8), (0 : Int)⟩ : T_lecternref03_Token).Kind, .int .i64 (⟨(0 : Int), (0 : Int), ([] : List UInt8), ([] : List T_scan_Pair), ([] : List UInt8), (0 : Int)⟩ : T_lecternref03_Token).At, .str (⟨(0 : Int), (0 : Int), ([] : List UInt8), ([] : List T_scan_Pair), ([] : List UInt8), (0 : Int)⟩ : T_lecternref03_Token).Name, .sl 2 (List.map c_T_scan_Pair (⟨(0 : Int), (0 : Int), ([] : List UInt8), ([] : List T_scan_Pair), ([] : List UInt8), (0 : Int)⟩ : T_lecternref03_Token).Pairs) 0, .str (⟨(0 : Int), (0 : Int), ([] : List UInt8), ([] : List T_scan_Pair), ([] : List UInt8), (0 : Int)⟩ : T_lecternref03_Token).Text, .int .i64 (⟨(0 : Int), (0 : Int), ([] : List UInt8), ([] : List T_scan_Pair), ([] : List UInt8), (0 : Int)⟩ : T_lecternref03_Token).Refs]) ty_ag_37 ty_sz_37 rfl rfl)) (.tmp (v := .int .i64 (0 : Int)) rfl (.tmp (v := .int .i64 (23 : Int)) rfl .nil))) ?_
      exact ⟨_, _, (.tupC (.cons (.aggC (.cons (.refl _) (.cons (.refl _) (.cons (.refl _) (.cons (.refl _) (.cons (.refl _) (.cons (.refl _) (.nil)))))))) (.cons (.refl _) (.cons (.refl _) (.nil))))), ok.wh, _, F_some hF, rfl, rfl⟩
     ·refine Zqf1 ?_
      refine cl (F_lecternref03_written_ok _ hF fun x30 _ hF => ?_)
      refine Zqgn ?_
      refine C_if rfl hF (fun hb31 hF => ?_) fun hb31 hF => ?_
      ·refine Zqb1 ?_
       refine S_bld (v := .agg [.int .i64 (0 : Int), .int .i64 (0 : Int), .str ([] : List UInt8), .snil, .str ([] : List UInt8), .int .i64 (0 : Int)]) (b_st ty_zc_37 ty_pl_37 rfl) ?_
       refine S_one 63 (v := .agg (c_T_lecternref03_Token (⟨(0 : Int), (0 : Int), ([] : List UInt8), ([] : List T_scan_Pair), ([] : List UInt8), (0 : Int)⟩ : T_lecternref03_Token))) (.aggC (.cons (.refl _) (.cons (.refl _) (.cons (.refl _) (.cons (.nil _) (.cons (.refl _) (.cons (.refl _) (.nil)))))))) ?_
       refine Zqah ?_
       refine S_st (j := 2) (cs' := [.int .i64 (⟨(0 : Int), (0 : Int), ([] : List UInt8), ([] : List T_scan_Pair), ([] : List UInt8), (0 : Int)⟩ : T_lecternref03_Token).Kind, .int .i64 (⟨(0 : Int), (0 : Int), ([] : List UInt8), ([] : List T_scan_Pair), ([] : List UInt8), (0 : Int)⟩ : T_lecternref03_Token).At, .str (⟨(0 : Int), (0 : Int), ([] : List UInt8), ([] : List T_scan_Pair), ([] : List UInt8), (0 : Int)⟩ : T_lecternref03_Token).Name, .sl 2 (List.map c_T_scan_Pair (⟨(0 : Int), (0 : Int), ([] : List UInt8), ([] : List T_scan_Pair), ([] : List UInt8), (0 : Int)⟩ : T_lecternref03_Token).Pairs) 0, .str (⟨(0 : Int), (0 : Int), ([] : List UInt8), ([] : List T_scan_Pair), ([] : List UInt8), (0 : Int)⟩ : T_lecternref03_Token).Text, .int .i64 (⟨(0 : Int), (0 : Int), ([] : List UInt8), ([] : List T_scan_Pair), ([] : List UInt8), (0 : Int)⟩ : T_lecternref03_Token).Refs]) ok rfl rfl rfl hi1 rfl ty_sz_37 rfl rfl (fun ok => ?_)
       refine Zqcf ?_
       replace hF := hG21 _ (F_some hF)
       refine xr ?_
       refine C_ret (fn := Tryz.f40) rfl (.cell rfl (ld_ptr (j := 2) ok rfl hi1 (p_agg (vs := [.int .i64 (⟨(0 : Int), (0 : Int), ([] : List UInt8), ([] : List T_scan_Pair), ([] : List UInt8), (0 : Int)⟩ : T_lecternref03_Token).Kind, .int .i64 (⟨(0 : Int), (0 : Int), ([] : List UInt8), ([] : List T_scan_Pair), ([] : List UInt8), (0 : Int)⟩ : T_lecternref03_Token).At, .str (⟨(0 : Int), (0 : Int), ([] : List UInt8), ([] : List T_scan_Pair), ([] : List UInt8), (0 : Int)⟩ : T_lecternref03_Token).Name, .sl 2 (List.map c_T_scan_Pair (⟨(0 : Int), (0 : Int), ([] : List UInt8), ([] : List T_scan_Pair), ([] : List UInt8), (0 : Int)⟩ : T_lecternref03_Token).Pairs) 0, .str (⟨(0 : Int), (0 : Int), ([] : List UInt8), ([] : List T_scan_Pair), ([] : List UInt8), (0 : Int)⟩ : T_lecternref03_Token).Text, .int .i64 (⟨(0 : Int), (0 : Int), ([] : List UInt8), ([] : List T_scan_Pair), ([] : List UInt8), (0 : Int)⟩ : T_lecternref03_Token).Refs]) ty_ag_37 ty_sz_37 rfl rfl)) (.tmp (v := .int .i64 (0 : Int)) rfl (.tmp (v := .int .i64 x30.2.2) rfl .nil))) ?_
       exact ⟨_, _, (.tupC (.cons (.aggC (.cons (.refl _) (.cons (.refl _) (.cons (.refl _) (.cons (.refl _) (.cons (.refl _) (.cons (.refl _) (.nil)))))))) (.cons (.refl _) (.cons (.refl _) (.nil))))), ok.wh, _, F_some hF, rfl, rfl⟩
      ·refine Zqf1 ?_
       refine cl (F_lecternref03_value_ok _ hF fun x32 _ hF => ?_)
       refine Zqfk ?_
       refine Zqgd ?_
       refine C_if rfl hF (fun hb33 hF => ?_) fun hb33 hF => ?_
       ·refine Zqb1 ?_
        refine S_bld (v := .agg [.int .i64 (0 : Int), .int .i64 (0 : Int), .str ([] : List UInt8), .snil, .str ([] : List UInt8), .int .i64 (0 : Int)]) (b_st ty_zc_37 ty_pl_37 rfl) ?_
        refine S_one 73 (v := .agg (c_T_lecternref03_Token (⟨(0 : Int), (0 : Int), ([] : List UInt8), ([] : List T_scan_Pair), ([] : List UInt8), (0 : Int)⟩ : T_lecternref03_Token))) (.aggC (.cons (.refl _) (.cons (.refl _) (.cons (.refl _) (.cons (.nil _) (.cons (.refl _) (.cons (.refl _) (.nil)))))))) ?_
        refine S_st (j := 2) (cs' := [.int .i64 (⟨(0 : Int), (0 : Int), ([] : List UInt8), ([] : List T_scan_Pair), ([] : List UInt8), (0 : Int)⟩ : T_lecternref03_Token).Kind, .int .i64 (⟨(0 : Int), (0 : Int), ([] : List UInt8), ([] : List T_scan_Pair), ([] : List UInt8), (0 : Int)⟩ : T_lecternref03_Token).At, .str (⟨(0 : Int), (0 : Int), ([] : List UInt8), ([] : List T_scan_Pair), ([] : List UInt8), (0 : Int)⟩ : T_lecternref03_Token).Name, .sl 2 (List.map c_T_scan_Pair (⟨(0 : Int), (0 : Int), ([] : List UInt8), ([] : List T_scan_Pair), ([] : List UInt8), (0 : Int)⟩ : T_lecternref03_Token).Pairs) 0, .str (⟨(0 : Int), (0 : Int), ([] : List UInt8), ([] : List T_scan_Pair), ([] : List UInt8), (0 : Int)⟩ : T_lecternref03_Token).Text, .int .i64 (⟨(0 : Int), (0 : Int), ([] : List UInt8), ([] : List T_scan_Pair), ([] : List UInt8), (0 : Int)⟩ : T_lecternref03_Token).Refs]) ok rfl rfl rfl hi1 rfl ty_sz_37 rfl rfl (fun ok => ?_)
        refine Zqcf ?_
        replace hF := hG21 _ (F_some hF)
        refine xr ?_
        refine C_ret (fn := Tryz.f40) rfl (.cell rfl (ld_ptr (j := 2) ok rfl hi1 (p_agg (vs := [.int .i64 (⟨(0 : Int), (0 : Int), ([] : List UInt8), ([] : List T_scan_Pair), ([] : List UInt8), (0 : Int)⟩ : T_lecternref03_Token).Kind, .int .i64 (⟨(0 : Int), (0 : Int), ([] : List UInt8), ([] : List T_scan_Pair), ([] : List UInt8), (0 : Int)⟩ : T_lecternref03_Token).At, .str (⟨(0 : Int), (0 : Int), ([] : List UInt8), ([] : List T_scan_Pair), ([] : List UInt8), (0 : Int)⟩ : T_lecternref03_Token).Name, .sl 2 (List.map c_T_scan_Pair (⟨(0 : Int), (0 : Int), ([] : List UInt8), ([] : List T_scan_Pair), ([] : List UInt8), (0 : Int)⟩ : T_lecternref03_Token).Pairs) 0, .str (⟨(0 : Int), (0 : Int), ([] : List UInt8), ([] : List T_scan_Pair), ([] : List UInt8), (0 : Int)⟩ : T_lecternref03_Token).Text, .int .i64 (⟨(0 : Int), (0 : Int), ([] : List UInt8), ([] : List T_scan_Pair), ([] : List UInt8), (0 : Int)⟩ : T_lecternref03_Token).Refs]) ty_ag_37 ty_sz_37 rfl rfl)) (.tmp (v := .int .i64 (0 : Int)) rfl (.tmp (v := .int .i64 (23 : Int)) rfl .nil))) ?_
        exact ⟨_, _, (.tupC (.cons (.aggC (.cons (.refl _) (.cons (.refl _) (.cons (.refl _) (.cons (.refl _) (.cons (.refl _) (.cons (.refl _) (.nil)))))))) (.cons (.refl _) (.cons (.refl _) (.nil))))), ok.wh, _, F_some hF, rfl, rfl⟩
       ·refine Zqeo ?_
        refine Zqbk ?_
        refine cl (F_lecternref02_Read_ok _ hF fun x34 _ hF => ?_)
        refine Zqgn ?_
        refine C_if rfl hF (fun hb35 hF => ?_) fun hb35 hF => ?_
        ·refine Zqb1 ?_
         refine S_bld (v := .agg [.int .i64 (0 : Int), .int .i64 (0 : Int), .str ([] : List UInt8), .snil, .str ([] : List UInt8), .int .i64 (0 : Int)]) (b_st ty_zc_37 ty_pl_37 rfl) ?_
         refine S_one 83 (v := .agg (c_T_lecternref03_Token (⟨(0 : Int), (0 : Int), ([] : List UInt8), ([] : List T_scan_Pair), ([] : List UInt8), (0 : Int)⟩ : T_lecternref03_Token))) (.aggC (.cons (.refl _) (.cons (.refl _) (.cons (.refl _) (.cons (.nil _) (.cons (.refl _) (.cons (.refl _) (.nil)))))))) ?_
         refine Zqah ?_
         refine S_st (j := 2) (cs' := [.int .i64 (⟨(0 : Int), (0 : Int), ([] : List UInt8), ([] : List T_scan_Pair), ([] : List UInt8), (0 : Int)⟩ : T_lecternref03_Token).Kind, .int .i64 (⟨(0 : Int), (0 : Int), ([] : List UInt8), ([] : List T_scan_Pair), ([] : List UInt8), (0 : Int)⟩ : T_lecternref03_Token).At, .str (⟨(0 : Int), (0 : Int), ([] : List UInt8), ([] : List T_scan_Pair), ([] : List UInt8), (0 : Int)⟩ : T_lecternref03_Token).Name, .sl 2 (List.map c_T_scan_Pair (⟨(0 : Int), (0 : Int), ([] : List UInt8), ([] : List T_scan_Pair), ([] : List UInt8), (0 : Int)⟩ : T_lecternref03_Token).Pairs) 0, .str (⟨(0 : Int), (0 : Int), ([] : List UInt8), ([] : List T_scan_Pair), ([] : List UInt8), (0 : Int)⟩ : T_lecternref03_Token).Text, .int .i64 (⟨(0 : Int), (0 : Int), ([] : List UInt8), ([] : List T_scan_Pair), ([] : List UInt8), (0 : Int)⟩ : T_lecternref03_Token).Refs]) ok rfl rfl rfl hi1 rfl ty_sz_37 rfl rfl (fun ok => ?_)
         refine Zqcf ?_
         replace hF := hG21 _ (F_some hF)
         refine xr ?_
         refine C_ret (fn := Tryz.f40) rfl (.cell rfl (ld_ptr (j := 2) ok rfl hi1 (p_agg (vs := [.int .i64 (⟨(0 : Int), (0 : Int), ([] : List UInt8), ([] : List T_scan_Pair), ([] : List UInt8), (0 : Int)⟩ : T_lecternref03_Token).Kind, .int .i64 (⟨(0 : Int), (0 : Int), ([] : List UInt8), ([] : List T_scan_Pair), ([] : List UInt8), (0 : Int)⟩ : T_lecternref03_Token).At, .str (⟨(0 : Int), (0 : Int), ([] : List UInt8), ([] : List T_scan_Pair), ([] : List UInt8), (0 : Int)⟩ : T_lecternref03_Token).Name, .sl 2 (List.map c_T_scan_Pair (⟨(0 : Int), (0 : Int), ([] : List UInt8), ([] : List T_scan_Pair), ([] : List UInt8), (0 : Int)⟩ : T_lecternref03_Token).Pairs) 0, .str (⟨(0 : Int), (0 : Int), ([] : List UInt8), ([] : List T_scan_Pair), ([] : List UInt8), (0 : Int)⟩ : T_lecternref03_Token).Text, .int .i64 (⟨(0 : Int), (0 : Int), ([] : List UInt8), ([] : List T_scan_Pair), ([] : List UInt8), (0 : Int)⟩ : T_lecternref03_Token).Refs]) ty_ag_37 ty_sz_37 rfl rfl)) (.tmp (v := .int .i64 (0 : Int)) rfl (.tmp (v := .int .i64 x34.2.2) rfl .nil))) ?_
         exact ⟨_, _, (.tupC (.cons (.aggC (.cons (.refl _) (.cons (.refl _) (.cons (.refl _) (.cons (.refl _) (.cons (.refl _) (.cons (.refl _) (.nil)))))))) (.cons (.refl _) (.cons (.refl _) (.nil))))), ok.wh, _, F_some hF, rfl, rfl⟩
        ·refine Zqal ?_
         refine C_join hF (fun (v : Int × Int × (List UInt8) × (List T_scan_Pair) × (List UInt8) × Int) s' => match v with | (a47, a48, a49, a50, a51, a52) => OK h [(g17, .room), (i4, .cells [.int .i64 a13, .int .i64 a14, .str a15, .sl 2 (List.map c_T_scan_Pair a16) g17, .str a18, .int .i64 a19]), (i1, .cells [.int .i64 a47, .int .i64 a48, .str a49, .sl 2 (List.map c_T_scan_Pair a50) 0, .str a51, .int .i64 a52])] ∧ WS s' ⟨mkSl 107 [(0, .str p0), (4, .ptr i1 0), (10, .ptr i4 0), (12, .str x30.1), (16, .int .i64 x32.2), (17, .str x34.1)], Hp h [(g17, .room), (i4, .cells [.int .i64 a13, .int .i64 a14, .str a15, .sl 2 (List.map c_T_scan_Pair a16) g17, .str a18, .int .i64 a19]), (i1, .cells [.int .i64 a47, .int .i64 a48, .str a49, .sl 2 (List.map c_T_scan_Pair a50) 0, .str a51, .int .i64 a52])]⟩) (fun J53 hF => ?_) ?_
         ·refine Zqb1 ?_
          refine Zqbq ?_
          refine Zqbz ?_
          refine S_one 86 (v := .sl 2 (List.map c_T_scan_Pair a16) 0) (.zero _ _ _) ?_
          refine S_lenL rfl ty_sl_35 ?_
          refine Zqfc ?_
          refine C_loop (σ := Int × Int × (List UInt8) × (List T_scan_Pair) × (List UInt8) × Int × Int) hF (fun (v : Int × Int × (List UInt8) × (List T_scan_Pair) × (List UInt8) × Int × Int) s' => match v with | (a54, a55, a56, a57, a58, a59, a60) => OK h [(g17, .room), (i4, .cells [.int .i64 a13, .int .i64 a14, .str a15, .sl 2 (List.map c_T_scan_Pair a16) g17, .str a18, .int .i64 a19]), (i1, .cells [.int .i64 a54, .int .i64 a55, .str a56, .sl 2 (List.map c_T_scan_Pair a57) 0, .str a58, .int .i64 a59])] ∧ WS s' ⟨mkSl 107 [(0, .str p0), (4, .ptr i1 0), (10, .ptr i4 0), (12, .str x30.1), (16, .int .i64 x32.2), (17, .str x34.1), (86, .sl 2 (List.map c_T_scan_Pair a16) 0), (87, .int .i64 (a16.length : Int)), (88, .int .i64 a60)], Hp h [(g17, .room), (i4, .cells [.int .i64 a13, .int .i64 a14, .str a15, .sl 2 (List.map c_T_scan_Pair a16) g17, .str a18, .int .i64 a19]), (i1, .cells [.int .i64 a54, .int .i64 a55, .str a56, .sl 2 (List.map c_T_scan_Pair a57) 0, .str a58, .int .i64 a59])]⟩) ?_ ?_
          ·exact ⟨oy ok, wy ok⟩
          ·rintro G61 hG62 rec63 ⟨a54, a55, a56, a57, a58, a59, a60⟩ s' ih64 hF ⟨ok, hws⟩
           refine WP_ws hws ?_
           clear hws s'
           rw [F_lecternref03_tag_l1] at hF
           refine Zqfe ?_
           refine C_if rfl hF (fun hb65 hF => ?_) fun hb65 hF => ?_
           ·refine Zqem ?_
            refine Zqab ?_
            refine C_reg (mdl [(20, 1)]) ?_
            refine S_ix rfl rfl ty_sl_35 ty_sz_57 hF (fun x66 _ hF => ?_)
            refine S_ldQ rfl (p_agg (vs := c_T_scan_Pair x66) ty_ag_57 ty_sz_57 rfl rfl) ?_
            refine S_all1 ok rfl ty_zc_57 ?_
            intro i67 hi67 ok
            refine S_st (j := 0) (cs' := [.str x66.Name, .str x66.Value]) ok rfl rfl rfl hi67 rfl ty_sz_57 rfl rfl (fun ok => ?_)
            refine Zqaa ?_
            refine Zqb1 ?_
            refine S_faP rfl ty_fd_57_0 ty_sz_9 ?_
            refine Zqbx ?_
            refine Zqak ?_
            refine Zqfx ?_
            refine C_if rfl hF (fun hb68 hF => ?_) fun hb68 hF => ?_
            ·refine Zqb1 ?_
             refine S_bld (v := .agg [.int .i64 (0 : Int), .int .i64 (0 : Int), .str ([] : List UInt8), .snil, .str ([] : List UInt8), .int .i64 (0 : Int)]) (b_st ty_zc_37 ty_pl_37 rfl) ?_
             refine S_one 96 (v := .agg (c_T_lecternref03_Token (⟨(0 : Int), (0 : Int), ([] : List UInt8), ([] : List T_scan_Pair), ([] : List UInt8), (0 : Int)⟩ : T_lecternref03_Token))) (.aggC (.cons (.refl _) (.cons (.refl _) (.cons (.refl _) (.cons (.nil _) (.cons (.refl _) (.cons (.refl _) (.nil)))))))) ?_
             refine S_st (j := 3) (cs' := [.int .i64 (⟨(0 : Int), (0 : Int), ([] : List UInt8), ([] : List T_scan_Pair), ([] : List UInt8), (0 : Int)⟩ : T_lecternref03_Token).Kind, .int .i64 (⟨(0 : Int), (0 : Int), ([] : List UInt8), ([] : List T_scan_Pair), ([] : List UInt8), (0 : Int)⟩ : T_lecternref03_Token).At, .str (⟨(0 : Int), (0 : Int), ([] : List UInt8), ([] : List T_scan_Pair), ([] : List UInt8), (0 : Int)⟩ : T_lecternref03_Token).Name, .sl 2 (List.map c_T_scan_Pair (⟨(0 : Int), (0 : Int), ([] : List UInt8), ([] : List T_scan_Pair), ([] : List UInt8), (0 : Int)⟩ : T_lecternref03_Token).Pairs) 0, .str (⟨(0 : Int), (0 : Int), ([] : List UInt8), ([] : List T_scan_Pair), ([] : List UInt8), (0 : Int)⟩ : T_lecternref03_Token).Text, .int .i64 (⟨(0 : Int), (0 : Int), ([] : List UInt8), ([] : List T_scan_Pair), ([] : List UInt8), (0 : Int)⟩ : T_lecternref03_Token).Refs]) ok rfl rfl rfl hi1 rfl ty_sz_37 rfl rfl (fun ok => ?_)
             refine Zqcf ?_
             replace hF := hG62 _ (F_some hF)
             replace hF := hG21 _ (F_some hF)
             refine xr ?_
             refine C_ret (fn := Tryz.f40) rfl (.cell rfl (ld_ptr (j := 3) ok rfl hi1 (p_agg (vs := [.int .i64 (⟨(0 : Int), (0 : Int), ([] : List UInt8), ([] : List T_scan_Pair), ([] : List UInt8), (0 : Int)⟩ : T_lecternref03_Token).Kind, .int .i64 (⟨(0 : Int), (0 : Int), ([] : List UInt8), ([] : List T_scan_Pair), ([] : List UInt8), (0 : Int)⟩ : T_lecternref03_Token).At, .str (⟨(0 : Int), (0 : Int), ([] : List UInt8), ([] : List T_scan_Pair), ([] : List UInt8), (0 : Int)⟩ : T_lecternref03_Token).Name, .sl 2 (List.map c_T_scan_Pair (⟨(0 : Int), (0 : Int), ([] : List UInt8), ([] : List T_scan_Pair), ([] : List UInt8), (0 : Int)⟩ : T_lecternref03_Token).Pairs) 0, .str (⟨(0 : Int), (0 : Int), ([] : List UInt8), ([] : List T_scan_Pair), ([] : List UInt8), (0 : Int)⟩ : T_lecternref03_Token).Text, .int .i64 (⟨(0 : Int), (0 : Int), ([] : List UInt8), ([] : List T_scan_Pair), ([] : List UInt8), (0 : Int)⟩ : T_lecternref03_Token).Refs]) ty_ag_37 ty_sz_37 rfl rfl)) (.tmp (v := .int .i64 (0 : Int)) rfl (.tmp (v := .int .i64 (27 : Int)) rfl .nil))) ?_
             exact ⟨_, _, (.tupC (.cons (.aggC (.cons (.refl _) (.cons (.refl _) (.cons (.refl _) (.cons (.refl _) (.cons (.refl _) (.cons (.refl _) (.nil)))))))) (.cons (.refl _) (.cons (.refl _) (.nil))))), ok.wh, _, F_some hF, rfl, rfl⟩
            ·refine Zqal ?_
             refine Zqfg ?_
             refine ih64 (a54, a55, a56, a57, a58, a59, (IntKind.wrap .i64 (a60 + (1 : Int)))) _ hF ?_
             exact ⟨oy ok, wy ok⟩
           ·refine Zqcs ?_
            replace hF := hG62 _ (F_some hF)
            exact ⟨(a54, a55, a56, a57, a58, a59), hF, oy ok, wy ok⟩
         ·rintro ⟨a47, a48, a49, a50, a51, a52⟩ s' hF ⟨ok, hws⟩
          refine WP_ws hws ?_
          clear hws s'
          refine Zqab ?_
          refine C_reg (mdl [(104, 2)]) ?_
          refine Zqbq ?_
          refine Zqbz ?_
          refine Zqak ?_
          refine Zqak ?_
          refine S_bld (v := .agg (c_T_scan_Pair (⟨x30.1, x34.1⟩ : T_scan_Pair))) (b_st ty_zc_57 ty_pl_57 rfl) ?_
          refine S_lit0 (cs := [.str (⟨x30.1, x34.1⟩ : T_scan_Pair).Name, .str (⟨x30.1, x34.1⟩ : T_scan_Pair).Value]) (es := (List.map c_T_scan_Pair [(⟨x30.1, x34.1⟩ : T_scan_Pair)])) rfl ty_el_35 rfl (by kernel_rfl) (by kernel_rfl) ?_
          refine S_app (j := 0) ok rfl rfl rfl rfl hg17 ty_el_35 ty_ni_35 hF ?_
          intro r69 hr69 ok hF
          refine Zqbq ?_
          refine S_st (j := 1) (cs' := [.int .i64 a13, .int .i64 a14, .str a15, .sl 2 (List.map c_T_scan_Pair (a16 ++ [(⟨x30.1, x34.1⟩ : T_scan_Pair)])) r69, .str a18, .int .i64 a19]) ok rfl rfl rfl hi4 rfl ty_sz_35 rfl rfl (fun ok => ?_)
          refine Zqaa ?_
          refine Zqdj ?_
          refine Zqb5 ?_
          refine ih23 (a47, a48, a49, a50, a51, a52, x32.2, a13, a14, a15, (a16 ++ [(⟨x30.1, x34.1⟩ : T_scan_Pair)]), a18, a19) _ hF ?_
          exact ⟨r69, hr69, oy ok, wy ok⟩
theorem F_lecternref03_tag_ok {β : Type} {f : T_lecternref03_Token × Int × Int → Option β} {G : β → Prop} {R : D → Heap → Prop} {p0 : List UInt8} {p1 : Int} (h : Heap) (hF : OptP ((F_lecternref03_tag p0 p1).bind f) G) (hk : ∀ r, F_lecternref03_tag p0 p1 = some r → OptP (f r) G → R (.tup [.agg (c_T_lecternref03_Token r.1), .int .i64 r.2.1, .int .i64 r.2.2]) h) : CallsA Tryz.prog 40 [.str p0, .int .i64 p1] h R := by
 obtain ⟨r0, hr, hF⟩ := F_bind hF
 refine (F_lecternref03_tag_w (G := fun r => r = r0) p0 p1 h ⟨r0, hr, rfl⟩).mono ?_
 rintro _ _ ⟨r, rfl, rfl, rfl⟩
 exact hk _ hr hF
theorem F_lecternref03_One_w (p0 : List UInt8) (p1 : Int) {G : T_lecternref03_Token × Int × Int → Prop} (h : Heap) (hF : OptP (F_lecternref03_One p0 p1) G) : CallsA Tryz.prog 17 [.str p0, .int .i64 p1] h fun d h' => ∃ r, G r ∧ d = .tup [.agg (c_T_lecternref03_Token r.1), .int .i64 r.2.1, .int .i64 r.2.2] ∧ h' = h := by
 refine CallsA.ret ?_
 refine C_body Tryz.func17 rfl en_17 Tryz.ntmps17 rfl (fun ok => ?_)
 rw [F_lecternref03_One] at hF
 refine Zqab ?_
 refine C_reg (mdl [(4, 1)]) ?_
 refine S_all1 ok rfl ty_zc_37 ?_
 intro i1 hi1 ok
 refine Zqfr ?_
 refine Zqfq ?_
 refine Zqdr ?_
 refine S_twoJ 3 24 hF (fun J3 hb2 hF => ?_) (fun J3 hb2 hF => ?_) (fun v4 hF => ?_)
 ·refine Zqc1 ?_
  refine cl (F_lecternref03_Stands_ok _ hF fun x5 _ hF => ?_)
  refine Zqci ?_
  exact tw
 ·refine Zqcv ?_
  exact tw
 ·refine Zqam ?_
  refine S_twoJ 4 29 hF (fun J7 hb6 hF => ?_) (fun J7 hb6 hF => ?_) (fun v8 hF => ?_)
  ·refine Zqc1 ?_
   refine cl (F_lecternref03_White_ok _ hF fun x9 _ hF => ?_)
   refine Zqb4 ?_
   refine Zqbg ?_
   refine Zqci ?_
   exact tw
  ·refine Zqeq ?_
   exact tw
  ·refine Zqcb ?_
   refine C_if rfl hF (fun hb10 hF => ?_) fun hb10 hF => ?_
   ·refine Zqcd ?_
    refine cl (F_lecternref03_declaration_ok _ hF fun x11 _ hF => ?_)
    refine Zqco ?_
    refine Zqar ?_
    refine S_st (j := 0) (cs' := [.int .i64 x11.1.Kind, .int .i64 x11.1.At, .str x11.1.Name, .sl 2 (List.map c_T_scan_Pair x11.1.Pairs) 0, .str x11.1.Text, .int .i64 x11.1.Refs]) ok rfl rfl rfl hi1 rfl ty_sz_37 rfl rfl (fun ok => ?_)
    refine Zqcf ?_
    refine xr ?_
    refine C_ret (fn := Tryz.f17) rfl (.cell rfl (ld_ptr (j := 0) ok rfl hi1 (p_agg (vs := [.int .i64 x11.1.Kind, .int .i64 x11.1.At, .str x11.1.Name, .sl 2 (List.map c_T_scan_Pair x11.1.Pairs) 0, .str x11.1.Text, .int .i64 x11.1.Refs]) ty_ag_37 ty_sz_37 rfl rfl)) (.tmp (v := .int .i64 x11.2.1) rfl (.tmp (v := .int .i64 x11.2.2) rfl .nil))) ?_
    exact ⟨_, _, (.tupC (.cons (.aggC (.cons (.refl _) (.cons (.refl _) (.cons (.refl _) (.cons (.refl _) (.cons (.refl _) (.cons (.refl _) (.nil)))))))) (.cons (.refl _) (.cons (.refl _) (.nil))))), ok.wh, _, F_some hF, rfl, rfl⟩
   ·refine Zqct ?_
    refine cl (F_lecternref03_Stands_ok _ hF fun x12 _ hF => ?_)
    refine Zqcb ?_
    refine C_if rfl hF (fun hb13 hF => ?_) fun hb13 hF => ?_
    ·refine Zqcd ?_
     refine Zqcm ?_
     refine cl (F_lecternref03_Find_ok _ hF fun x14 _ hF => ?_)
     refine Zqdu ?_
     refine Zqen ?_
     refine S_twoJ 5 50 hF (fun J16 hb15 hF => ?_) (fun J16 hb15 hF => ?_) (fun v17 hF => ?_)
     ·refine Zqf6 ?_
      exact tw
     ·refine Zqef ?_
      refine cl (F_lecternref03_Stands_ok _ hF fun x18 _ hF => ?_)
      refine Zqfm ?_
      exact tw
     ·refine Zqaa ?_
      refine C_if rfl hF (fun hb19 hF => ?_) fun hb19 hF => ?_
      ·refine Zqb1 ?_
       refine S_bld (v := .agg [.int .i64 (0 : Int), .int .i64 (0 : Int), .str ([] : List UInt8), .snil, .str ([] : List UInt8), .int .i64 (0 : Int)]) (b_st ty_zc_37 ty_pl_37 rfl) ?_
       refine S_one 51 (v := .agg (c_T_lecternref03_Token (⟨(0 : Int), (0 : Int), ([] : List UInt8), ([] : List T_scan_Pair), ([] : List UInt8), (0 : Int)⟩ : T_lecternref03_Token))) (.aggC (.cons (.refl _) (.cons (.refl _) (.cons (.refl _) (.cons (.nil _) (.cons (.refl _) (.cons (.refl _) (.nil)))))))) ?_
       refine S_st (j := 0) (cs' := [.int .i64 (⟨(0 : Int), (0 : Int), ([] : List UInt8), ([] : List T_scan_Pair), ([] : List UInt8), (0 : Int)⟩ : T_lecternref03_Token).Kind, .int .i64 (⟨(0 : Int), (0 : Int), ([] : List UInt8), ([] : List T_scan_Pair), ([] : List UInt8), (0 : Int)⟩ : T_lecternref03_Token).At, .str (⟨(0 : Int), (0 : Int), ([] : List UInt8), ([] : List T_scan_Pair), ([] : List UInt8), (0 : Int)⟩ : T_lecternref03_Token).Name, .sl 2 (List.map c_T_scan_Pair (⟨(0 : Int), (0 : Int), ([] : List UInt8), ([] : List T_scan_Pair), ([] : List UInt8), (0 : Int)⟩ : T_lecternref03_Token).Pairs) 0, .str (⟨(0 : Int), (0 : Int), ([] : List UInt8), ([] : List T_scan_Pair), ([] : List UInt8), (0 : Int)⟩ : T_lecternref03_Token).Text, .int .i64 (⟨(0 : Int), (0 : Int), ([] : List UInt8), ([] : List T_scan_Pair), ([] : List UInt8), (0 : Int)⟩ : T_lecternref03_Token).Refs]) ok rfl rfl rfl hi1 rfl ty_sz_37 rfl rfl (fun ok => ?_)
       refine Zqcf ?_
       refine xr ?_
       refine C_ret (fn := Tryz.f17) rfl (.cell rfl (ld_ptr (j := 0) ok rfl hi1 (p_agg (vs := [.int .i64 (⟨(0 : Int), (0 : Int), ([] : List UInt8), ([] : List T_scan_Pair), ([] : List UInt8), (0 : Int)⟩ : T_lecternref03_Token).Kind, .int .i64 (⟨(0 : Int), (0 : Int), ([] : List UInt8), ([] : List T_scan_Pair), ([] : List UInt8), (0 : Int)⟩ : T_lecternref03_Token).At, .str (⟨(0 : Int), (0 : Int), ([] : List UInt8), ([] : List T_scan_Pair), ([] : List UInt8), (0 : Int)⟩ : T_lecternref03_Token).Name, .sl 2 (List.map c_T_scan_Pair (⟨(0 : Int), (0 : Int), ([] : List UInt8), ([] : List T_scan_Pair), ([] : List UInt8), (0 : Int)⟩ : T_lecternref03_Token).Pairs) 0, .str (⟨(0 : Int), (0 : Int), ([] : List UInt8), ([] : List T_scan_Pair), ([] : List UInt8), (0 : Int)⟩ : T_lecternref03_Token).Text, .int .i64 (⟨(0 : Int), (0 : Int), ([] : List UInt8), ([] : List T_scan_Pair), ([] : List UInt8), (0 : Int)⟩ : T_lecternref03_Token).Refs]) ty_ag_37 ty_sz_37 rfl rfl)) (.tmp (v := .int .i64 (0 : Int)) rfl (.tmp (v := .int .i64 (23 : Int)) rfl .nil))) ?_
       exact ⟨_, _, (.tupC (.cons (.aggC (.cons (.refl _) (.cons (.refl _) (.cons (.refl _) (.cons (.refl _) (.cons (.refl _) (.cons (.refl _) (.nil)))))))) (.cons (.refl _) (.cons (.refl _) (.nil))))), ok.wh, _, F_some hF, rfl, rfl⟩
      ·refine Zqeo ?_
       refine Zqcm ?_
       refine Zqah ?_
       refine S_slS rfl ty_st_9 (bd_at rfl) (bd_at rfl) hF (fun x20 _ hF => ?_)
       refine S_bld (v := .agg [.int .i64 (7 : Int), .int .i64 (0 : Int), .str ([] : List UInt8), .snil, .str x20, .int .i64 (0 : Int)]) (b_st ty_zc_37 ty_pl_37 rfl) ?_
       refine S_one 57 (v := .agg (c_T_lecternref03_Token (⟨(7 : Int), (0 : Int), ([] : List UInt8), ([] : List T_scan_Pair), x20, (0 : Int)⟩ : T_lecternref03_Token))) (.aggC (.cons (.refl _) (.cons (.refl _) (.cons (.refl _) (.cons (.nil _) (.cons (.refl _) (.cons (.refl _) (.nil)))))))) ?_
       refine Zqcm ?_
       refine S_st (j := 0) (cs' := [.int .i64 (⟨(7 : Int), (0 : Int), ([] : List UInt8), ([] : List T_scan_Pair), x20, (0 : Int)⟩ : T_lecternref03_Token).Kind, .int .i64 (⟨(7 : Int), (0 : Int), ([] : List UInt8), ([] : List T_scan_Pair), x20, (0 : Int)⟩ : T_lecternref03_Token).At, .str (⟨(7 : Int), (0 : Int), ([] : List UInt8), ([] : List T_scan_Pair), x20, (0 : Int)⟩ : T_lecternref03_Token).Name, .sl 2 (List.map c_T_scan_Pair (⟨(7 : Int), (0 : Int), ([] : List UInt8), ([] : List T_scan_Pair), x20, (0 : Int)⟩ : T_lecternref03_Token).Pairs) 0, .str (⟨(7 : Int), (0 : Int), ([] : List UInt8), ([] : List T_scan_Pair), x20, (0 : Int)⟩ : T_lecternref03_Token).Text, .int .i64 (⟨(7 : Int), (0 : Int), ([] : List UInt8), ([] : List T_scan_Pair), x20, (0 : Int)⟩ : T_lecternref03_Token).Refs]) ok rfl rfl rfl hi1 rfl ty_sz_37 rfl rfl (fun ok => ?_)
       refine Zqcf ?_
       refine xr ?_
       refine C_ret (fn := Tryz.f17) rfl (.cell rfl (ld_ptr (j := 0) ok rfl hi1 (p_agg (vs := [.int .i64 (⟨(7 : Int), (0 : Int), ([] : List UInt8), ([] : List T_scan_Pair), x20, (0 : Int)⟩ : T_lecternref03_Token).Kind, .int .i64 (⟨(7 : Int), (0 : Int), ([] : List UInt8), ([] : List T_scan_Pair), x20, (0 : Int)⟩ : T_lecternref03_Token).At, .str (⟨(7 : Int), (0 : Int), ([] : List UInt8), ([] : List T_scan_Pair), x20, (0 : Int)⟩ : T_lecternref03_Token).Name, .sl 2 (List.map c_T_scan_Pair (⟨(7 : Int), (0 : Int), ([] : List UInt8), ([] : List T_scan_Pair), x20, (0 : Int)⟩ : T_lecternref03_Token).Pairs) 0, .str (⟨(7 : Int), (0 : Int), ([] : List UInt8), ([] : List T_scan_Pair), x20, (0 : Int)⟩ : T_lecternref03_Token).Text, .int .i64 (⟨(7 : Int), (0 : Int), ([] : List UInt8), ([] : List T_scan_Pair), x20, (0 : Int)⟩ : T_lecternref03_Token).Refs]) ty_ag_37 ty_sz_37 rfl rfl)) (.tmp (v := .int .i64 (IntKind.wrap .i64 (x14 + (3 : Int)))) rfl (.tmp (v := .int .i64 (0 : Int)) rfl .nil))) ?_
       exact ⟨_, _, (.tupC (.cons (.aggC (.cons (.refl _) (.cons (.refl _) (.cons (.refl _) (.cons (.refl _) (.cons (.refl _) (.cons (.refl _) (.nil)))))))) (.cons (.refl _) (.cons (.refl _) (.nil))))), ok.wh, _, F_some hF, rfl, rfl⟩
    ·refine Zqct ?_
     refine cl (F_lecternref03_Stands_ok _ hF fun x21 _ hF => ?_)
     refine Zqcb ?_
     refine C_if rfl hF (fun hb22 hF => ?_) fun hb22 hF => ?_
     ·refine Zqcd ?_
      refine Zqcm ?_
      refine cl (F_lecternref03_Find_ok _ hF fun x23 _ hF => ?_)
      refine Zqgd ?_
      refine C_if rfl hF (fun hb24 hF => ?_) fun hb24 hF => ?_
      ·refine Zqb1 ?_
       refine S_bld (v := .agg [.int .i64 (0 : Int), .int .i64 (0 : Int), .str ([] : List UInt8), .snil, .str ([] : List UInt8), .int .i64 (0 : Int)]) (b_st ty_zc_37 ty_pl_37 rfl) ?_
       refine S_one 70 (v := .agg (c_T_lecternref03_Token (⟨(0 : Int), (0 : Int), ([] : List UInt8), ([] : List T_scan_Pair), ([] : List UInt8), (0 : Int)⟩ : T_lecternref03_Token))) (.aggC (.cons (.refl _) (.cons (.refl _) (.cons (.refl _) (.cons (.nil _) (.cons (.refl _) (.cons (.refl _) (.nil)))))))) ?_
       refine S_st (j := 0) (cs' := [.int .i64 (⟨(0 : Int), (0 : Int), ([] : List UInt8), ([] : List T_scan_Pair), ([] : List UInt8), (0 : Int)⟩ : T_lecternref03_Token).Kind, .int .i64 (⟨(0 : Int), (0 : Int), ([] : List UInt8), ([] : List T_scan_Pair), ([] : List UInt8), (0 : Int)⟩ : T_lecternref03_Token).At, .str (⟨(0 : Int), (0 : Int), ([] : List UInt8), ([] : List T_scan_Pair), ([] : List UInt8), (0 : Int)⟩ : T_lecternref03_Token).Name, .sl 2 (List.map c_T_scan_Pair (⟨(0 : Int), (0 : Int), ([] : List UInt8), ([] : List T_scan_Pair), ([] : List UInt8), (0 : Int)⟩ : T_lecternref03_Token).Pairs) 0, .str (⟨(0 : Int), (0 : Int), ([] : List UInt8), ([] : List T_scan_Pair), ([] : List UInt8), (0 : Int)⟩ : T_lecternref03_Token).Text, .int .i64 (⟨(0 : Int), (0 : Int), ([] : List UInt8), ([] : List T_scan_Pair), ([] : List UInt8), (0 : Int)⟩ : T_lecternref03_Token).Refs]) ok rfl rfl rfl hi1 rfl ty_sz_37 rfl rfl (fun ok => ?_)
       refine Zqcf ?_
       refine xr ?_
       refine C_ret (fn := Tryz.f17) rfl (.cell rfl (ld_ptr (j := 0) ok rfl hi1 (p_agg (vs := [.int .i64 (⟨(0 : Int), (0 : Int), ([] : List UInt8), ([] : List T_scan_Pair), ([] : List UInt8), (0 : Int)⟩ : T_lecternref03_Token).Kind, .int .i64 (⟨(0 : Int), (0 : Int), ([] : List UInt8), ([] : List T_scan_Pair), ([] : List UInt8), (0 : Int)⟩ : T_lecternref03_Token).At, .str (⟨(0 : Int), (0 : Int), ([] : List UInt8), ([] : List T_scan_Pair), ([] : List UInt8), (0 : Int)⟩ : T_lecternref03_Token).Name, .sl 2 (List.map c_T_scan_Pair (⟨(0 : Int), (0 : Int), ([] : List UInt8), ([] : List T_scan_Pair), ([] : List UInt8), (0 : Int)⟩ : T_lecternref03_Token).Pairs) 0, .str (⟨(0 : Int), (0 : Int), ([] : List UInt8), ([] : List T_scan_Pair), ([] : List UInt8), (0 : Int)⟩ : T_lecternref03_Token).Text, .int .i64 (⟨(0 : Int), (0 : Int), ([] : List UInt8), ([] : List T_scan_Pair), ([] : List UInt8), (0 : Int)⟩ : T_lecternref03_Token).Refs]) ty_ag_37 ty_sz_37 rfl rfl)) (.tmp (v := .int .i64 (0 : Int)) rfl (.tmp (v := .int .i64 (23 : Int)) rfl .nil))) ?_
       exact ⟨_, _, (.tupC (.cons (.aggC (.cons (.refl _) (.cons (.refl _) (.cons (.refl _) (.cons (.refl _) (.cons (.refl _) (.cons (.refl _) (.nil)))))))) (.cons (.refl _) (.cons (.refl _) (.nil))))), ok.wh, _, F_some hF, rfl, rfl⟩
      ·refine Zqeo ?_
       refine Zqcm ?_
       refine Zqah ?_
       refine S_slS rfl ty_st_9 (bd_at rfl) (bd_at rfl) hF (fun x25 _ hF => ?_)
       refine S_bld (v := .agg [.int .i64 (6 : Int), .int .i64 (0 : Int), .str ([] : List UInt8), .snil, .str x25, .int .i64 (0 : Int)]) (b_st ty_zc_37 ty_pl_37 rfl) ?_
       refine S_one 76 (v := .agg (c_T_lecternref03_Token (⟨(6 : Int), (0 : Int), ([] : List UInt8), ([] : List T_scan_Pair), x25, (0 : Int)⟩ : T_lecternref03_Token))) (.aggC (.cons (.refl _) (.cons (.refl _) (.cons (.refl _) (.cons (.nil _) (.cons (.refl _) (.cons (.refl _) (.nil)))))))) ?_
       refine Zqcm ?_
       refine S_st (j := 0) (cs' := [.int .i64 (⟨(6 : Int), (0 : Int), ([] : List UInt8), ([] : List T_scan_Pair), x25, (0 : Int)⟩ : T_lecternref03_Token).Kind, .int .i64 (⟨(6 : Int), (0 : Int), ([] : List UInt8), ([] : List T_scan_Pair), x25, (0 : Int)⟩ : T_lecternref03_Token).At, .str (⟨(6 : Int), (0 : Int), ([] : List UInt8), ([] : List T_scan_Pair), x25, (0 : Int)⟩ : T_lecternref03_Token).Name, .sl 2 (List.map c_T_scan_Pair (⟨(6 : Int), (0 : Int), ([] : List UInt8), ([] : List T_scan_Pair), x25, (0 : Int)⟩ : T_lecternref03_Token).Pairs) 0, .str (⟨(6 : Int), (0 : Int), ([] : List UInt8), ([] : List T_scan_Pair), x25, (0 : Int)⟩ : T_lecternref03_Token).Text, .int .i64 (⟨(6 : Int), (0 : Int), ([] : List UInt8), ([] : List T_scan_Pair), x25, (0 : Int)⟩ : T_lecternref03_Token).Refs]) ok rfl rfl rfl hi1 rfl ty_sz_37 rfl rfl (fun ok => ?_)
       refine Zqcf ?_
       refine xr ?_
       refine C_ret (fn := Tryz.f17) rfl (.cell rfl (ld_ptr (j := 0) ok rfl hi1 (p_agg (vs := [.int .i64 (⟨(6 : Int), (0 : Int), ([] : List UInt8), ([] : List T_scan_Pair), x25, (0 : Int)⟩ : T_lecternref03_Token).Kind, .int .i64 (⟨(6 : Int), (0 : Int), ([] : List UInt8), ([] : List T_scan_Pair), x25, (0 : Int)⟩ : T_lecternref03_Token).At, .str (⟨(6 : Int), (0 : Int), ([] : List UInt8), ([] : List T_scan_Pair), x25, (0 : Int)⟩ : T_lecternref03_Token).Name, .sl 2 (List.map c_T_scan_Pair (⟨(6 : Int), (0 : Int), ([] : List UInt8), ([] : List T_scan_Pair), x25, (0 : Int)⟩ : T_lecternref03_Token).Pairs) 0, .str (⟨(6 : Int), (0 : Int), ([] : List UInt8), ([] : List T_scan_Pair), x25, (0 : Int)⟩ : T_lecternref03_Token).Text, .int .i64 (⟨(6 : Int), (0 : Int), ([] : List UInt8), ([] : List T_scan_Pair), x25, (0 : Int)⟩ : T_lecternref03_Token).Refs]) ty_ag_37 ty_sz_37 rfl rfl)) (.tmp (v := .int .i64 (IntKind.wrap .i64 (x23 + (3 : Int)))) rfl (.tmp (v := .int .i64 (0 : Int)) rfl .nil))) ?_
       exact ⟨_, _, (.tupC (.cons (.aggC (.cons (.refl _) (.cons (.refl _) (.cons (.refl _) (.cons (.refl _) (.cons (.refl _) (.cons (.refl _) (.nil)))))))) (.cons (.refl _) (.cons (.refl _) (.nil))))), ok.wh, _, F_some hF, rfl, rfl⟩
     ·refine Zqct ?_
      refine cl (F_lecternref03_Stands_ok _ hF fun x26 _ hF => ?_)
      refine Zqcb ?_
      refine C_if rfl hF (fun hb27 hF => ?_) fun hb27 hF => ?_
      ·refine Zqb1 ?_
       refine S_bld (v := .agg [.int .i64 (0 : Int), .int .i64 (0 : Int), .str ([] : List UInt8), .snil, .str ([] : List UInt8), .int .i64 (0 : Int)]) (b_st ty_zc_37 ty_pl_37 rfl) ?_
       refine S_one 83 (v := .agg (c_T_lecternref03_Token (⟨(0 : Int), (0 : Int), ([] : List UInt8), ([] : List T_scan_Pair), ([] : List UInt8), (0 : Int)⟩ : T_lecternref03_Token))) (.aggC (.cons (.refl _) (.cons (.refl _) (.cons (.refl _) (.cons (.nil _) (.cons (.refl _) (.cons (.refl _) (.nil)))))))) ?_
       refine S_st (j := 0) (cs' := [.int .i64 (⟨(0 : Int), (0 : Int), ([] : List UInt8), ([] : List T_scan_Pair), ([] : List UInt8), (0 : Int)⟩ : T_lecternref03_Token).Kind, .int .i64 (⟨(0 : Int), (0 : Int), ([] : List UInt8), ([] : List T_scan_Pair), ([] : List UInt8), (0 : Int)⟩ : T_lecternref03_Token).At, .str (⟨(0 : Int), (0 : Int), ([] : List UInt8), ([] : List T_scan_Pair), ([] : List UInt8), (0 : Int)⟩ : T_lecternref03_Token).Name, .sl 2 (List.map c_T_scan_Pair (⟨(0 : Int), (0 : Int), ([] : List UInt8), ([] : List T_scan_Pair), ([] : List UInt8), (0 : Int)⟩ : T_lecternref03_Token).Pairs) 0, .str (⟨(0 : Int), (0 : Int), ([] : List UInt8), ([] : List T_scan_Pair), ([] : List UInt8), (0 : Int)⟩ : T_lecternref03_Token).Text, .int .i64 (⟨(0 : Int), (0 : Int), ([] : List UInt8), ([] : List T_scan_Pair), ([] : List UInt8), (0 : Int)⟩ : T_lecternref03_Token).Refs]) ok rfl rfl rfl hi1 rfl ty_sz_37 rfl rfl (fun ok => ?_)
       refine Zqcf ?_
       refine xr ?_
       refine C_ret (fn := Tryz.f17) rfl (.cell rfl (ld_ptr (j := 0) ok rfl hi1 (p_agg (vs := [.int .i64 (⟨(0 : Int), (0 : Int), ([] : List UInt8), ([] : List T_scan_Pair), ([] : List UInt8), (0 : Int)⟩ : T_lecternref03_Token).Kind, .int .i64 (⟨(0 : Int), (0 : Int), ([] : List UInt8), ([] : List T_scan_Pair), ([] : List UInt8), (0 : Int)⟩ : T_lecternref03_Token).At, .str (⟨(0 : Int), (0 : Int), ([] : List UInt8), ([] : List T_scan_Pair), ([] : List UInt8), (0 : Int)⟩ : T_lecternref03_Token).Name, .sl 2 (List.map c_T_scan_Pair (⟨(0 : Int), (0 : Int), ([] : List UInt8), ([] : List T_scan_Pair), ([] : List UInt8), (0 : Int)⟩ : T_lecternref03_Token).Pairs) 0, .str (⟨(0 : Int), (0 : Int), ([] : List UInt8), ([] : List T_scan_Pair), ([] : List UInt8), (0 : Int)⟩ : T_lecternref03_Token).Text, .int .i64 (⟨(0 : Int), (0 : Int), ([] : List UInt8), ([] : List T_scan_Pair), ([] : List UInt8), (0 : Int)⟩ : T_lecternref03_Token).Refs]) ty_ag_37 ty_sz_37 rfl rfl)) (.tmp (v := .int .i64 (0 : Int)) rfl (.tmp (v := .int .i64 (25 : Int)) rfl .nil))) ?_
       exact ⟨_, _, (.tupC (.cons (.aggC (.cons (.refl _) (.cons (.refl _) (.cons (.refl _) (.cons (.refl _) (.cons (.refl _) (.cons (.refl _) (.nil)))))))) (.cons (.refl _) (.cons (.refl _) (.nil))))), ok.wh, _, F_some hF, rfl, rfl⟩
      ·refine Zqct ?_
       refine cl (F_lecternref03_Stands_ok _ hF fun x28 _ hF => ?_)
       refine Zqcb ?_
       refine C_if rfl hF (fun hb29 hF => ?_) fun hb29 hF => ?_
       ·refine Zqb1 ?_
        refine S_bld (v := .agg [.int .i64 (0 : Int), .int .i64 (0 : Int), .str ([] : List UInt8), .snil, .str ([] : List UInt8), .int .i64 (0 : Int)]) (b_st ty_zc_37 ty_pl_37 rfl) ?_
        refine S_one 88 (v := .agg (c_T_lecternref03_Token (⟨(0 : Int), (0 : Int), ([] : List UInt8), ([] : List T_scan_Pair), ([] : List UInt8), (0 : Int)⟩ : T_lecternref03_Token))) (.aggC (.cons (.refl _) (.cons (.refl _) (.cons (.refl _) (.cons (.nil _) (.cons (.refl _) (.cons (.refl _) (.nil)))))))) ?_
        refine S_st (j := 0) (cs' := [.int .i64 (⟨(0 : Int), (0 : Int), ([] : List UInt8), ([] : List T_scan_Pair), ([] : List UInt8), (0 : Int)⟩ : T_lecternref03_Token).Kind, .int .i64 (⟨(0 : Int), (0 : Int), ([] : List UInt8), ([] : List T_scan_Pair), ([] : List UInt8), (0 : Int)⟩ : T_lecternref03_Token).At, .str (⟨(0 : Int), (0 : Int), ([] : List UInt8), ([] : List T_scan_Pair), ([] : List UInt8), (0 : Int)⟩ : T_lecternref03_Token).Name, .sl 2 (List.map c_T_scan_Pair (⟨(0 : Int), (0 : Int), ([] : List UInt8), ([] : List T_scan_Pair), ([] : List UInt8), (0 : Int)⟩ : T_lecternref03_Token).Pairs) 0, .str (⟨(0 : Int), (0 : Int), ([] : List UInt8), ([] : List T_scan_Pair), ([] : List UInt8), (0 : Int)⟩ : T_lecternref03_Token).Text, .int .i64 (⟨(0 : Int), (0 : Int), ([] : List UInt8), ([] : List T_scan_Pair), ([] : List UInt8), (0 : Int)⟩ : T_lecternref03_Token).Refs]) ok rfl rfl rfl hi1 rfl ty_sz_37 rfl rfl (fun ok => ?_)
        refine Zqcf ?_
        refine xr ?_
        refine C_ret (fn := Tryz.f17) rfl (.cell rfl (ld_ptr (j := 0) ok rfl hi1 (p_agg (vs := [.int .i64 (⟨(0 : Int), (0 : Int), ([] : List UInt8), ([] : List T_scan_Pair), ([] : List UInt8), (0 : Int)⟩ : T_lecternref03_Token).Kind, .int .i64 (⟨(0 : Int), (0 : Int), ([] : List UInt8), ([] : List T_scan_Pair), ([] : List UInt8), (0 : Int)⟩ : T_lecternref03_Token).At, .str (⟨(0 : Int), (0 : Int), ([] : List UInt8), ([] : List T_scan_Pair), ([] : List UInt8), (0 : Int)⟩ : T_lecternref03_Token).Name, .sl 2 (List.map c_T_scan_Pair (⟨(0 : Int), (0 : Int), ([] : List UInt8), ([] : List T_scan_Pair), ([] : List UInt8), (0 : Int)⟩ : T_lecternref03_Token).Pairs) 0, .str (⟨(0 : Int), (0 : Int), ([] : List UInt8), ([] : List T_scan_Pair), ([] : List UInt8), (0 : Int)⟩ : T_lecternref03_Token).Text, .int .i64 (⟨(0 : Int), (0 : Int), ([] : List UInt8), ([] : List T_scan_Pair), ([] : List UInt8), (0 : Int)⟩ : T_lecternref03_Token).Refs]) ty_ag_37 ty_sz_37 rfl rfl)) (.tmp (v := .int .i64 (0 : Int)) rfl (.tmp (v := .int .i64 (23 : Int)) rfl .nil))) ?_
        exact ⟨_, _, (.tupC (.cons (.aggC (.cons (.refl _) (.cons (.refl _) (.cons (.refl _) (.cons (.refl _) (.cons (.refl _) (.cons (.refl _) (.nil)))))))) (.cons (.refl _) (.cons (.refl _) (.nil))))), ok.wh, _, F_some hF, rfl, rfl⟩
       ·refine Zqct ?_
        refine cl (F_lecternref03_Stands_ok _ hF fun x30 _ hF => ?_)
        refine Zqcb ?_
        refine C_if rfl hF (fun hb31 hF => ?_) fun hb31 hF => ?_
        ·refine Zqcd ?_
         refine Zqcm ?_
         refine cl (F_lecternref03_instruction_ok _ hF fun x32 _ hF => ?_)
         refine Zqco ?_
         refine Zqar ?_
         refine S_st (j := 0) (cs' := [.int .i64 x32.1.Kind, .int .i64 x32.1.At, .str x32.1.Name, .sl 2 (List.map c_T_scan_Pair x32.1.Pairs) 0, .str x32.1.Text, .int .i64 x32.1.Refs]) ok rfl rfl rfl hi1 rfl ty_sz_37 rfl rfl (fun ok => ?_)
         refine Zqcf ?_
         refine xr ?_
         refine C_ret (fn := Tryz.f17) rfl (.cell rfl (ld_ptr (j := 0) ok rfl hi1 (p_agg (vs := [.int .i64 x32.1.Kind, .int .i64 x32.1.At, .str x32.1.Name, .sl 2 (List.map c_T_scan_Pair x32.1.Pairs) 0, .str x32.1.Text, .int .i64 x32.1.Refs]) ty_ag_37 ty_sz_37 rfl rfl)) (.tmp (v := .int .i64 x32.2.1) rfl (.tmp (v := .int .i64 x32.2.2) rfl .nil))) ?_
         exact ⟨_, _, (.tupC (.cons (.aggC (.cons (.refl _) (.cons (.refl _) (.cons (.refl _) (.cons (.refl _) (.cons (.refl _) (.cons (.refl _) (.nil)))))))) (.cons (.refl _) (.cons (.refl _) (.nil))))), ok.wh, _, F_some hF, rfl, rfl⟩
        ·refine Zqct ?_
         refine cl (F_lecternref03_Stands_ok _ hF fun x33 _ hF => ?_)
         refine Zqcb ?_
         refine C_if rfl hF (fun hb34 hF => ?_) fun hb34 hF => ?_
         ·refine Zqcd ?_
          refine Zqcm ?_
          refine cl (F_lecternref03_written_ok _ hF fun x35 _ hF => ?_)
          refine Zqgn ?_
          refine C_if rfl hF (fun hb36 hF => ?_) fun hb36 hF => ?_
          ·refine Zqb1 ?_
           refine S_bld (v := .agg [.int .i64 (0 : Int), .int .i64 (0 : Int), .str ([] : List UInt8), .snil, .str ([] : List UInt8), .int .i64 (0 : Int)]) (b_st ty_zc_37 ty_pl_37 rfl) ?_
           refine S_one 114 (v := .agg (c_T_lecternref03_Token (⟨(0 : Int), (0 : Int), ([] : List UInt8), ([] : List T_scan_Pair), ([] : List UInt8), (0 : Int)⟩ : T_lecternref03_Token))) (.aggC (.cons (.refl _) (.cons (.refl _) (.cons (.refl _) (.cons (.nil _) (.cons (.refl _) (.cons (.refl _) (.nil)))))))) ?_
           refine Zqah ?_
           refine S_st (j := 0) (cs' := [.int .i64 (⟨(0 : Int), (0 : Int), ([] : List UInt8), ([] : List T_scan_Pair), ([] : List UInt8), (0 : Int)⟩ : T_lecternref03_Token).Kind, .int .i64 (⟨(0 : Int), (0 : Int), ([] : List UInt8), ([] : List T_scan_Pair), ([] : List UInt8), (0 : Int)⟩ : T_lecternref03_Token).At, .str (⟨(0 : Int), (0 : Int), ([] : List UInt8), ([] : List T_scan_Pair), ([] : List UInt8), (0 : Int)⟩ : T_lecternref03_Token).Name, .sl 2 (List.map c_T_scan_Pair (⟨(0 : Int), (0 : Int), ([] : List UInt8), ([] : List T_scan_Pair), ([] : List UInt8), (0 : Int)⟩ : T_lecternref03_Token).Pairs) 0, .str (⟨(0 : Int), (0 : Int), ([] : List UInt8), ([] : List T_scan_Pair), ([] : List UInt8), (0 : Int)⟩ : T_lecternref03_Token).Text, .int .i64 (⟨(0 : Int), (0 : Int), ([] : List UInt8), ([] : List T_scan_Pair), ([] : List UInt8), (0 : Int)⟩ : T_lecternref03_Token).Refs]) ok rfl rfl rfl hi1 rfl ty_sz_37 rfl rfl (fun ok => ?_)
           refine Zqcf ?_
           refine xr ?_
           refine C_ret (fn := Tryz.f17) rfl (.cell rfl (ld_ptr (j := 0) ok rfl hi1 (p_agg (vs := [.int .i64 (⟨(0 : Int), (0 : Int), ([] : List UInt8), ([] : List T_scan_Pair), ([] : List UInt8), (0 : Int)⟩ : T_lecternref03_Token).Kind, .int .i64 (⟨(0 : Int), (0 : Int), ([] : List UInt8), ([] : List T_scan_Pair), ([] : List UInt8), (0 : Int)⟩ : T_lecternref03_Token).At, .str (⟨(0 : Int), (0 : Int), ([] : List UInt8), ([] : List T_scan_Pair), ([] : List UInt8), (0 : Int)⟩ : T_lecternref03_Token).Name, .sl 2 (List.map c_T_scan_Pair (⟨(0 : Int), (0 : Int), ([] : List UInt8), ([] : List T_scan_Pair), ([] : List UInt8), (0 : Int)⟩ : T_lecternref03_Token).Pairs) 0, .str (⟨(0 : Int), (0 : Int), ([] : List UInt8), ([] : List T_scan_Pair), ([] : List UInt8), (0 : Int)⟩ : T_lecternref03_Token).Text, .int .i64 (⟨(0 : Int), (0 : Int), ([] : List UInt8), ([] : List T_scan_Pair), ([] : List UInt8), (0 : Int)⟩ : T_lecternref03_Token).Refs]) ty_ag_37 ty_sz_37 rfl rfl)) (.tmp (v := .int .i64 (0 : Int)) rfl (.tmp (v := .int .i64 x35.2.2) rfl .nil))) ?_
           exact ⟨_, _, (.tupC (.cons (.aggC (.cons (.refl _) (.cons (.refl _) (.cons (.refl _) (.cons (.refl _) (.cons (.refl _) (.cons (.refl _) (.nil)))))))) (.cons (.refl _) (.cons (.refl _) (.nil))))), ok.wh, _, F_some hF, rfl, rfl⟩
          ·refine Zqf1 ?_
           refine cl (F_lecternref03_White_ok _ hF fun x37 _ hF => ?_)
           refine Zqeu ?_
           refine Zqct ?_
           refine cl (F_lecternref03_Stands_ok _ hF fun x38 _ hF => ?_)
           refine Zqei ?_
           refine C_if rfl hF (fun hb39 hF => ?_) fun hb39 hF => ?_
           ·refine Zqb1 ?_
            refine S_bld (v := .agg [.int .i64 (0 : Int), .int .i64 (0 : Int), .str ([] : List UInt8), .snil, .str ([] : List UInt8), .int .i64 (0 : Int)]) (b_st ty_zc_37 ty_pl_37 rfl) ?_
            refine S_one 123 (v := .agg (c_T_lecternref03_Token (⟨(0 : Int), (0 : Int), ([] : List UInt8), ([] : List T_scan_Pair), ([] : List UInt8), (0 : Int)⟩ : T_lecternref03_Token))) (.aggC (.cons (.refl _) (.cons (.refl _) (.cons (.refl _) (.cons (.nil _) (.cons (.refl _) (.cons (.refl _) (.nil)))))))) ?_
            refine S_st (j := 0) (cs' := [.int .i64 (⟨(0 : Int), (0 : Int), ([] : List UInt8), ([] : List T_scan_Pair), ([] : List UInt8), (0 : Int)⟩ : T_lecternref03_Token).Kind, .int .i64 (⟨(0 : Int), (0 : Int), ([] : List UInt8), ([] : List T_scan_Pair), ([] : List UInt8), (0 : Int)⟩ : T_lecternref03_Token).At, .str (⟨(0 : Int), (0 : Int), ([] : List UInt8), ([] : List T_scan_Pair), ([] : List UInt8), (0 : Int)⟩ : T_lecternref03_Token).Name, .sl 2 (List.map c_T_scan_Pair (⟨(0 : Int), (0 : Int), ([] : List UInt8), ([] : List T_scan_Pair), ([] : List UInt8), (0 : Int)⟩ : T_lecternref03_Token).Pairs) 0, .str (⟨(0 : Int), (0 : Int), ([] : List UInt8), ([] : List T_scan_Pair), ([] : List UInt8), (0 : Int)⟩ : T_lecternref03_Token).Text, .int .i64 (⟨(0 : Int), (0 : Int), ([] : List UInt8), ([] : List T_scan_Pair), ([] : List UInt8), (0 : Int)⟩ : T_lecternref03_Token).Refs]) ok rfl rfl rfl hi1 rfl ty_sz_37 rfl rfl (fun ok => ?_)
            refine Zqcf ?_
            refine xr ?_
            refine C_ret (fn := Tryz.f17) rfl (.cell rfl (ld_ptr (j := 0) ok rfl hi1 (p_agg (vs := [.int .i64 (⟨(0 : Int), (0 : Int), ([] : List UInt8), ([] : List T_scan_Pair), ([] : List UInt8), (0 : Int)⟩ : T_lecternref03_Token).Kind, .int .i64 (⟨(0 : Int), (0 : Int), ([] : List UInt8), ([] : List T_scan_Pair), ([] : List UInt8), (0 : Int)⟩ : T_lecternref03_Token).At, .str (⟨(0 : Int), (0 : Int), ([] : List UInt8), ([] : List T_scan_Pair), ([] : List UInt8), (0 : Int)⟩ : T_lecternref03_Token).Name, .sl 2 (List.map c_T_scan_Pair (⟨(0 : Int), (0 : Int), ([] : List UInt8), ([] : List T_scan_Pair), ([] : List UInt8), (0 : Int)⟩ : T_lecternref03_Token).Pairs) 0, .str (⟨(0 : Int), (0 : Int), ([] : List UInt8), ([] : List T_scan_Pair), ([] : List UInt8), (0 : Int)⟩ : T_lecternref03_Token).Text, .int .i64 (⟨(0 : Int), (0 : Int), ([] : List UInt8), ([] : List T_scan_Pair), ([] : List UInt8), (0 : Int)⟩ : T_lecternref03_Token).Refs]) ty_ag_37 ty_sz_37 rfl rfl)) (.tmp (v := .int .i64 (0 : Int)) rfl (.tmp (v := .int .i64 (23 : Int)) rfl .nil))) ?_
            exact ⟨_, _, (.tupC (.cons (.aggC (.cons (.refl _) (.cons (.refl _) (.cons (.refl _) (.cons (.refl _) (.cons (.refl _) (.cons (.refl _) (.nil)))))))) (.cons (.refl _) (.cons (.refl _) (.nil))))), ok.wh, _, F_some hF, rfl, rfl⟩
           ·refine Zqeo ?_
            refine S_bld (v := .agg [.int .i64 (3 : Int), .int .i64 (0 : Int), .str x35.1, .snil, .str ([] : List UInt8), .int .i64 (0 : Int)]) (b_st ty_zc_37 ty_pl_37 rfl) ?_
            refine S_one 125 (v := .agg (c_T_lecternref03_Token (⟨(3 : Int), (0 : Int), x35.1, ([] : List T_scan_Pair), ([] : List UInt8), (0 : Int)⟩ : T_lecternref03_Token))) (.aggC (.cons (.refl _) (.cons (.refl _) (.cons (.refl _) (.cons (.nil _) (.cons (.refl _) (.cons (.refl _) (.nil)))))))) ?_
            refine Zqcm ?_
            refine S_st (j := 0) (cs' := [.int .i64 (⟨(3 : Int), (0 : Int), x35.1, ([] : List T_scan_Pair), ([] : List UInt8), (0 : Int)⟩ : T_lecternref03_Token).Kind, .int .i64 (⟨(3 : Int), (0 : Int), x35.1, ([] : List T_scan_Pair), ([] : List UInt8), (0 : Int)⟩ : T_lecternref03_Token).At, .str (⟨(3 : Int), (0 : Int), x35.1, ([] : List T_scan_Pair), ([] : List UInt8), (0 : Int)⟩ : T_lecternref03_Token).Name, .sl 2 (List.map c_T_scan_Pair (⟨(3 : Int), (0 : Int), x35.1, ([] : List T_scan_Pair), ([] : List UInt8), (0 : Int)⟩ : T_lecternref03_Token).Pairs) 0, .str (⟨(3 : Int), (0 : Int), x35.1, ([] : List T_scan_Pair), ([] : List UInt8), (0 : Int)⟩ : T_lecternref03_Token).Text, .int .i64 (⟨(3 : Int), (0 : Int), x35.1, ([] : List T_scan_Pair), ([] : List UInt8), (0 : Int)⟩ : T_lecternref03_Token).Refs]) ok rfl rfl rfl hi1 rfl ty_sz_37 rfl rfl (fun ok => ?_)
            refine Zqcf ?_
            refine xr ?_
            refine C_ret (fn := Tryz.f17) rfl (.cell rfl (ld_ptr (j := 0) ok rfl hi1 (p_agg (vs := [.int .i64 (⟨(3 : Int), (0 : Int), x35.1, ([] : List T_scan_Pair), ([] : List UInt8), (0 : Int)⟩ : T_lecternref03_Token).Kind, .int .i64 (⟨(3 : Int), (0 : Int), x35.1, ([] : List T_scan_Pair), ([] : List UInt8), (0 : Int)⟩ : T_lecternref03_Token).At, .str (⟨(3 : Int), (0 : Int), x35.1, ([] : List T_scan_Pair), ([] : List UInt8), (0 : Int)⟩ : T_lecternref03_Token).Name, .sl 2 (List.map c_T_scan_Pair (⟨(3 : Int), (0 : Int), x35.1, ([] : List T_scan_Pair), ([] : List UInt8), (0 : Int)⟩ : T_lecternref03_Token).Pairs) 0, .str (⟨(3 : Int), (0 : Int), x35.1, ([] : List T_scan_Pair), ([] : List UInt8), (0 : Int)⟩ : T_lecternref03_Token).Text, .int .i64 (⟨(3 : Int), (0 : Int), x35.1, ([] : List T_scan_Pair), ([] : List UInt8), (0 : Int)⟩ : T_lecternref03_Token).Refs]) ty_ag_37 ty_sz_37 rfl rfl)) (.tmp (v := .int .i64 (IntKind.wrap .i64 (x37 + (1 : Int)))) rfl (.tmp (v := .int .i64 (0 : Int)) rfl .nil))) ?_
            exact ⟨_, _, (.tupC (.cons (.aggC (.cons (.refl _) (.cons (.refl _) (.cons (.refl _) (.cons (.refl _) (.cons (.refl _) (.cons (.refl _) (.nil)))))))) (.cons (.refl _) (.cons (.refl _) (.nil))))), ok.wh, _, F_some hF, rfl, rfl⟩
         ·refine Zqct ?_
          refine S_ixS rfl rfl ty_st_9 hF (fun x40 _ hF => ?_)
          refine Zqf5 ?_
          refine C_if rfl hF (fun hb41 hF => ?_) fun hb41 hF => ?_
          ·refine Zqcd ?_
           refine Zqcm ?_
           refine cl (F_lecternref03_tag_ok _ hF fun x42 _ hF => ?_)
           refine Zqco ?_
           refine Zqar ?_
           refine S_st (j := 0) (cs' := [.int .i64 x42.1.Kind, .int .i64 x42.1.At, .str x42.1.Name, .sl 2 (List.map c_T_scan_Pair x42.1.Pairs) 0, .str x42.1.Text, .int .i64 x42.1.Refs]) ok rfl rfl rfl hi1 rfl ty_sz_37 rfl rfl (fun ok => ?_)
           refine Zqcf ?_
           refine xr ?_
           refine C_ret (fn := Tryz.f17) rfl (.cell rfl (ld_ptr (j := 0) ok rfl hi1 (p_agg (vs := [.int .i64 x42.1.Kind, .int .i64 x42.1.At, .str x42.1.Name, .sl 2 (List.map c_T_scan_Pair x42.1.Pairs) 0, .str x42.1.Text, .int .i64 x42.1.Refs]) ty_ag_37 ty_sz_37 rfl rfl)) (.tmp (v := .int .i64 x42.2.1) rfl (.tmp (v := .int .i64 x42.2.2) rfl .nil))) ?_
           exact ⟨_, _, (.tupC (.cons (.aggC (.cons (.refl _) (.cons (.refl _) (.cons (.refl _) (.cons (.refl _) (.cons (.refl _) (.cons (.refl _) (.nil)))))))) (.cons (.refl _) (.cons (.refl _) (.nil))))), ok.wh, _, F_some hF, rfl, rfl⟩
          ·refine Zqf1 ?_
           refine cl (F_lecternref03_Find_ok _ hF fun x43 _ hF => ?_)
           refine Zqb5 ?_
           refine C_join hF (fun (a45 : Int) s' => OK h [(i1, .cells [.int .i64 (0 : Int), .int .i64 (0 : Int), .str ([] : List UInt8), .sl 2 (List.map c_T_scan_Pair ([] : List T_scan_Pair)) 0, .str ([] : List UInt8), .int .i64 (0 : Int)])] ∧ WS s' ⟨mkSl 177 [(0, .str p0), (1, .int .i64 p1), (4, .ptr i1 0), (12, .int .i64 a45)], Hp h [(i1, .cells [.int .i64 (0 : Int), .int .i64 (0 : Int), .str ([] : List UInt8), .sl 2 (List.map c_T_scan_Pair ([] : List T_scan_Pair)) 0, .str ([] : List UInt8), .int .i64 (0 : Int)])]⟩) (fun J46 hF => ?_) ?_
           ·refine Zqb7 ?_
            refine Zqc0 ?_
            refine C_if rfl hF (fun hb47 hF => ?_) fun hb47 hF => ?_
            ·refine Zqac ?_
             refine Zqdg ?_
             refine Zqb5 ?_
             have hwo : WO [(i1, .cells [.int .i64 (0 : Int), .int .i64 (0 : Int), .str ([] : List UInt8), .snil, .str ([] : List UInt8), .int .i64 (0 : Int)])] [(i1, .cells [.int .i64 (0 : Int), .int .i64 (0 : Int), .str ([] : List UInt8), .sl 2 (List.map c_T_scan_Pair ([] : List T_scan_Pair)) 0, .str ([] : List UInt8), .int .i64 (0 : Int)])] := (.weak (.cons (.refl _) (.cons (.refl _) (.cons (.refl _) (.cons (.nil _) (.cons (.refl _) (.cons (.refl _) (.nil))))))) .nil)
             exact ⟨(p0.length : Int), hF, (hwo.spec ok).1, WS.mk' (.cons (.refl _) (.cons (.refl _) (.cons (.refl _) (.cons (.refl _) .nil)))) ok hwo⟩
            ·refine Zqal ?_
             have hwo : WO [(i1, .cells [.int .i64 (0 : Int), .int .i64 (0 : Int), .str ([] : List UInt8), .snil, .str ([] : List UInt8), .int .i64 (0 : Int)])] [(i1, .cells [.int .i64 (0 : Int), .int .i64 (0 : Int), .str ([] : List UInt8), .sl 2 (List.map c_T_scan_Pair ([] : List T_scan_Pair)) 0, .str ([] : List UInt8), .int .i64 (0 : Int)])] := (.weak (.cons (.refl _) (.cons (.refl _) (.cons (.refl _) (.cons (.nil _) (.cons (.refl _) (.cons (.refl _) (.nil))))))) .nil)
             exact ⟨x43, hF, (hwo.spec ok).1, WS.mk' (.cons (.refl _) (.cons (.refl _) (.cons (.refl _) (.cons (.refl _) .nil)))) ok hwo⟩
           ·rintro a45 s' hF ⟨ok, hws⟩
            refine WP_ws hws ?_
            clear hws s'
            refine Zqct ?_
            refine Zqah ?_
            refine S_slS rfl ty_st_9 (bd_at rfl) (bd_at rfl) hF (fun x48 _ hF => ?_)
            refine Zqbk ?_
            refine cl (F_lecternref02_Read_ok _ hF fun x49 _ hF => ?_)
            refine Zqgn ?_
            refine C_if rfl hF (fun hb50 hF => ?_) fun hb50 hF => ?_
            ·refine Zqb1 ?_
             refine S_bld (v := .agg [.int .i64 (0 : Int), .int .i64 (0 : Int), .str ([] : List UInt8), .snil, .str ([] : List UInt8), .int .i64 (0 : Int)]) (b_st ty_zc_37 ty_pl_37 rfl) ?_
             refine S_one 159 (v := .agg (c_T_lecternref03_Token (⟨(0 : Int), (0 : Int), ([] : List UInt8), ([] : List T_scan_Pair), ([] : List UInt8), (0 : Int)⟩ : T_lecternref03_Token))) (.aggC (.cons (.refl _) (.cons (.refl _) (.cons (.refl _) (.cons (.nil _) (.cons (.refl _) (.cons (.refl _) (.nil)))))))) ?_
             refine Zqah ?_
             refine S_st (j := 0) (cs' := [.int .i64 (⟨(0 : Int), (0 : Int), ([] : List UInt8), ([] : List T_scan_Pair), ([] : List UInt8), (0 : Int)⟩ : T_lecternref03_Token).Kind, .int .i64 (⟨(0 : Int), (0 : Int), ([] : List UInt8), ([] : List T_scan_Pair), ([] : List UInt8), (0 : Int)⟩ : T_lecternref03_Token).At, .str (⟨(0 : Int), (0 : Int), ([] : List UInt8), ([] : List T_scan_Pair), ([] : List UInt8), (0 : Int)⟩ : T_lecternref03_Token).Name, .sl 2 (List.map c_T_scan_Pair (⟨(0 : Int), (0 : Int), ([] : List UInt8), ([] : List T_scan_Pair), ([] : List UInt8), (0 : Int)⟩ : T_lecternref03_Token).Pairs) 0, .str (⟨(0 : Int), (0 : Int), ([] : List UInt8), ([] : List T_scan_Pair), ([] : List UInt8), (0 : Int)⟩ : T_lecternref03_Token).Text, .int .i64 (⟨(0 : Int), (0 : Int), ([] : List UInt8), ([] : List T_scan_Pair), ([] : List UInt8), (0 : Int)⟩ : T_lecternref03_Token).Refs]) ok rfl rfl rfl hi1 rfl ty_sz_37 rfl rfl (fun ok => ?_)
             refine Zqcf ?_
             refine xr ?_
             refine C_ret (fn := Tryz.f17) rfl (.cell rfl (ld_ptr (j := 0) ok rfl hi1 (p_agg (vs := [.int .i64 (⟨(0 : Int), (0 : Int), ([] : List UInt8), ([] : List T_scan_Pair), ([] : List UInt8), (0 : Int)⟩ : T_lecternref03_Token).Kind, .int .i64 (⟨(0 : Int), (0 : Int), ([] : List UInt8), ([] : List T_scan_Pair), ([] : List UInt8), (0 : Int)⟩ : T_lecternref03_Token).At, .str (⟨(0 : Int), (0 : Int), ([] : List UInt8), ([] : List T_scan_Pair), ([] : List UInt8), (0 : Int)⟩ : T_lecternref03_Token).Name, .sl 2 (List.map c_T_scan_Pair (⟨(0 : Int), (0 : Int), ([] : List UInt8), ([] : List T_scan_Pair), ([] : List UInt8), (0 : Int)⟩ : T_lecternref03_Token).Pairs) 0, .str (⟨(0 : Int), (0 : Int), ([] : List UInt8), ([] : List T_scan_Pair), ([] : List UInt8), (0 : Int)⟩ : T_lecternref03_Token).Text, .int .i64 (⟨(0 : Int), (0 : Int), ([] : List UInt8), ([] : List T_scan_Pair), ([] : List UInt8), (0 : Int)⟩ : T_lecternref03_Token).Refs]) ty_ag_37 ty_sz_37 rfl rfl)) (.tmp (v := .int .i64 (0 : Int)) rfl (.tmp (v := .int .i64 x49.2.2) rfl .nil))) ?_
             exact ⟨_, _, (.tupC (.cons (.aggC (.cons (.refl _) (.cons (.refl _) (.cons (.refl _) (.cons (.refl _) (.cons (.refl _) (.cons (.refl _) (.nil)))))))) (.cons (.refl _) (.cons (.refl _) (.nil))))), ok.wh, _, F_some hF, rfl, rfl⟩
            ·refine Zqal ?_
             refine Zqcx ?_
             refine C_join hF (fun (a59 : Int) s' => OK h [(i1, .cells [.int .i64 (0 : Int), .int .i64 (0 : Int), .str ([] : List UInt8), .sl 2 (List.map c_T_scan_Pair ([] : List T_scan_Pair)) 0, .str ([] : List UInt8), .int .i64 (0 : Int)])] ∧ WS s' ⟨mkSl 177 [(4, .ptr i1 0), (12, .int .i64 a45), (13, .str x49.1), (16, .int .i64 a59)], Hp h [(i1, .cells [.int .i64 (0 : Int), .int .i64 (0 : Int), .str ([] : List UInt8), .sl 2 (List.map c_T_scan_Pair ([] : List T_scan_Pair)) 0, .str ([] : List UInt8), .int .i64 (0 : Int)])]⟩) (fun J60 hF => ?_) ?_
             ·refine Zqb7 ?_
              refine Zqb5 ?_
              refine Zqaw ?_
              refine C_loop (σ := Int × Int) hF (fun (v : Int × Int) s' => match v with | (a61, a62) => OK h [(i1, .cells [.int .i64 (0 : Int), .int .i64 (0 : Int), .str ([] : List UInt8), .sl 2 (List.map c_T_scan_Pair ([] : List T_scan_Pair)) 0, .str ([] : List UInt8), .int .i64 (0 : Int)])] ∧ WS s' ⟨mkSl 177 [(0, .str p0), (4, .ptr i1 0), (12, .int .i64 a45), (13, .str x49.1), (16, .int .i64 a61), (17, .int .i64 a62)], Hp h [(i1, .cells [.int .i64 (0 : Int), .int .i64 (0 : Int), .str ([] : List UInt8), .sl 2 (List.map c_T_scan_Pair ([] : List T_scan_Pair)) 0, .str ([] : List UInt8), .int .i64 (0 : Int)])]⟩) ?_ ?_
              ·exact ⟨oy ok, wy ok⟩
              ·rintro G63 hG64 rec65 ⟨a61, a62⟩ s' ih66 hF ⟨ok, hws⟩
               refine WP_ws hws ?_
               clear hws s'
               rw [F_lecternref03_One_l0] at hF
               refine Zqer ?_
               refine Zqc0 ?_
               refine C_if rfl hF (fun hb67 hF => ?_) fun hb67 hF => ?_
               ·refine Zqal ?_
                refine C_join hF (fun (a70 : Int) s' => OK h [(i1, .cells [.int .i64 (0 : Int), .int .i64 (0 : Int), .str ([] : List UInt8), .sl 2 (List.map c_T_scan_Pair ([] : List T_scan_Pair)) 0, .str ([] : List UInt8), .int .i64 (0 : Int)])] ∧ WS s' ⟨mkSl 177 [(0, .str p0), (4, .ptr i1 0), (12, .int .i64 a45), (13, .str x49.1), (16, .int .i64 a70), (17, .int .i64 a62)], Hp h [(i1, .cells [.int .i64 (0 : Int), .int .i64 (0 : Int), .str ([] : List UInt8), .sl 2 (List.map c_T_scan_Pair ([] : List T_scan_Pair)) 0, .str ([] : List UInt8), .int .i64 (0 : Int)])]⟩) (fun J71 hF => ?_) ?_
                ·refine Zqaw ?_
                 refine Zqct ?_
                 refine S_ixS rfl rfl ty_st_9 hF (fun x72 _ hF => ?_)
                 refine Zqdy ?_
                 refine C_if rfl hF (fun hb73 hF => ?_) fun hb73 hF => ?_
                 ·refine Zqd2 ?_
                  exact ⟨(IntKind.wrap .i64 (a61 + (1 : Int))), hF, oy ok, wy ok⟩
                 ·refine Zqal ?_
                  exact ⟨a61, hF, oy ok, wy ok⟩
                ·rintro a70 s' hF ⟨ok, hws⟩
                 refine WP_ws hws ?_
                 clear hws s'
                 refine Zqd2 ?_
                 refine ih66 (a70, (IntKind.wrap .i64 (a62 + (1 : Int)))) _ hF ?_
                 exact ⟨oy ok, wy ok⟩
               ·refine Zqcs ?_
                replace hF := hG64 _ (F_some hF)
                exact ⟨a61, hF, oy ok, wy ok⟩
             ·rintro a59 s' hF ⟨ok, hws⟩
              refine WP_ws hws ?_
              clear hws s'
              refine Zqct ?_
              refine S_bld (v := .agg [.int .i64 (5 : Int), .int .i64 (0 : Int), .str ([] : List UInt8), .snil, .str x49.1, .int .i64 a59]) (b_st ty_zc_37 ty_pl_37 rfl) ?_
              refine S_one 175 (v := .agg (c_T_lecternref03_Token (⟨(5 : Int), (0 : Int), ([] : List UInt8), ([] : List T_scan_Pair), x49.1, a59⟩ : T_lecternref03_Token))) (.aggC (.cons (.refl _) (.cons (.refl _) (.cons (.refl _) (.cons (.nil _) (.cons (.refl _) (.cons (.refl _) (.nil)))))))) ?_
              refine Zqah ?_
              refine S_st (j := 0) (cs' := [.int .i64 (⟨(5 : Int), (0 : Int), ([] : List UInt8), ([] : List T_scan_Pair), x49.1, a59⟩ : T_lecternref03_Token).Kind, .int .i64 (⟨(5 : Int), (0 : Int), ([] : List UInt8), ([] : List T_scan_Pair), x49.1, a59⟩ : T_lecternref03_Token).At, .str (⟨(5 : Int), (0 : Int), ([] : List UInt8), ([] : List T_scan_Pair), x49.1, a59⟩ : T_lecternref03_Token).Name, .sl 2 (List.map c_T_scan_Pair (⟨(5 : Int), (0 : Int), ([] : List UInt8), ([] : List T_scan_Pair), x49.1, a59⟩ : T_lecternref03_Token).Pairs) 0, .str (⟨(5 : Int), (0 : Int), ([] : List UInt8), ([] : List T_scan_Pair), x49.1, a59⟩ : T_lecternref03_Token).Text, .int .i64 (⟨(5 : Int), (0 : Int), ([] : List UInt8), ([] : List T_scan_Pair), x49.1, a59⟩ : T_lecternref03_Token).Refs]) ok rfl rfl rfl hi1 rfl ty_sz_37 rfl rfl (fun ok => ?_)
              refine Zqcf ?_
              refine xr ?_
              refine C_ret (fn := Tryz.f17) rfl (.cell rfl (ld_ptr (j := 0) ok rfl hi1 (p_agg (vs := [.int .i64 (⟨(5 : Int), (0 : Int), ([] : List UInt8), ([] : List T_scan_Pair), x49.1, a59⟩ : T_lecternref03_Token).Kind, .int .i64 (⟨(5 : Int), (0 : Int), ([] : List UInt8), ([] : List T_scan_Pair), x49.1, a59⟩ : T_lecternref03_Token).At, .str (⟨(5 : Int), (0 : Int), ([] : List UInt8), ([] : List T_scan_Pair), x49.1, a59⟩ : T_lecternref03_Token).Name, .sl 2 (List.map c_T_scan_Pair (⟨(5 : Int), (0 : Int), ([] : List UInt8), ([] : List T_scan_Pair), x49.1, a59⟩ : T_lecternref03_Token).Pairs) 0, .str (⟨(5 : Int), (0 : Int), ([] : List UInt8), ([] : List T_scan_Pair), x49.1, a59⟩ : T_lecternref03_Token).Text, .int .i64 (⟨(5 : Int), (0 : Int), ([] : List UInt8), ([] : List T_scan_Pair), x49.1, a59⟩ : T_lecternref03_Token).Refs]) ty_ag_37 ty_sz_37 rfl rfl)) (.tmp (v := .int .i64 a45) rfl (.tmp (v := .int .i64 (0 : Int)) rfl .nil))) ?_
              exact ⟨_, _, (.tupC (.cons (.aggC (.cons (.refl _) (.cons (.refl _) (.cons (.refl _) (.cons (.refl _) (.cons (.refl _) (.cons (.refl _) (.nil)))))))) (.cons (.refl _) (.cons (.refl _) (.nil))))), ok.wh, _, F_some hF, rfl, rfl⟩
theorem F_lecternref03_One_ok {β : Type} {f : T_lecternref03_Token × Int × Int → Option β} {G : β → Prop} {R : D → Heap → Prop} {p0 : List UInt8} {p1 : Int} (h : Heap) (hF : OptP ((F_lecternref03_One p0 p1).bind f) G) (hk : ∀ r, F_lecternref03_One p0 p1 = some r → OptP (f r) G → R (.tup [.agg (c_T_lecternref03_Token r.1), .int .i64 r.2.1, .int .i64 r.2.2]) h) : CallsA Tryz.prog 17 [.str p0, .int .i64 p1] h R := by
 obtain ⟨r0, hr, hF⟩ := F_bind hF
 refine (F_lecternref03_One_w (G := fun r => r = r0) p0 p1 h ⟨r0, hr, rfl⟩).mono ?_
 rintro _ _ ⟨r, rfl, rfl, rfl⟩
 exact hk _ hr hF
theorem F_lecternref03_All_w (p0 : List UInt8) {G : (List T_lecternref03_Token) × Int × Int → Prop} (h : Heap) (hF : OptP (F_lecternref03_All p0) G) : CallsA Tryz.prog 8 [.sl 1 (List.map c_u8 p0) 0] h fun d h' => ∃ r, G r ∧ d = .tup [.sl 6 (List.map c_T_lecternref03_Token r.1) 0, .int .i64 r.2.1, .int .i64 r.2.2] ∧ h' = h := by
 refine CallsA.ret ?_
 refine C_body Tryz.func8 rfl en_8 Tryz.ntmps8 rfl (fun ok => ?_)
 rw [F_lecternref03_All] at hF
 refine Zqb1 ?_
 refine S_a (v := .snil) rfl ?_
 refine S_one 2 (v := .sl 6 (List.map c_T_lecternref03_Token ([] : List T_lecternref03_Token)) 0) (.nil _) ?_
 refine Zqfr ?_
 refine Zqf2 ?_
 refine Zqbg ?_
 refine Zqaa ?_
 refine C_if rfl hF (fun hb1 hF => ?_) fun hb1 hF => ?_
 ·refine Zqb1 ?_
  refine S_a (v := .snil) rfl ?_
  refine S_one 2 (v := .sl 6 (List.map c_T_lecternref03_Token ([] : List T_lecternref03_Token)) 0) (.nil _) ?_
  refine Zqcf ?_
  exact rt
 ·refine Zqal ?_
  refine Zqcu ?_
  refine cl (F_lecternref03_Text_ok _ hF fun x2 _ hF => ?_)
  refine Zqe4 ?_
  refine Zqcd ?_
  refine Zqbk ?_
  refine cl (F_lecternref01_Fault_ok _ hF fun x3 _ hF => ?_)
  refine Zqcw ?_
  refine Zqes ?_
  refine C_if rfl hF (fun hb4 hF => ?_) fun hb4 hF => ?_
  ·refine Zqd5 ?_
   refine S_a (v := .snil) rfl ?_
   refine S_one 2 (v := .sl 6 (List.map c_T_lecternref03_Token ([] : List T_lecternref03_Token)) 0) (.nil _) ?_
   refine Zqcf ?_
   exact rt
  ·refine Zqc2 ?_
   refine C_reg (mdl [(27, 2)]) ?_
   refine S_lit2 (cs := []) (es := (List.map c_T_lecternref03_Token ([] : List T_lecternref03_Token))) ok rfl ty_el_29 rfl (by kernel_rfl) (by kernel_rfl) ?_
   intro r5 hr5 ok
   refine Zqd0 ?_
   refine C_join hF (fun (a14 : (List T_lecternref03_Token)) s' => ∃ g15 : Nat, g15 ≠ 0 ∧ OK h [(g15, .room)] ∧ WS s' ⟨mkSl 51 [(8, .sl 6 (List.map c_T_lecternref03_Token a14) g15)], Hp h [(g15, .room)]⟩) (fun J16 hF => ?_) ?_
   ·refine Zqd9 ?_
    refine C_loop (σ := Int × (List T_lecternref03_Token)) hF (fun (v : Int × (List T_lecternref03_Token)) s' => match v with | (a17, a18) => ∃ g19 : Nat, g19 ≠ 0 ∧ OK h [(g19, .room)] ∧ WS s' ⟨mkSl 51 [(5, .str x2), (6, .int .i64 a17), (8, .sl 6 (List.map c_T_lecternref03_Token a18) g19)], Hp h [(g19, .room)]⟩) ?_ ?_
    ·exact ⟨r5, hr5, oy ok, wy ok⟩
    ·rintro G20 hG21 rec22 ⟨a17, a18⟩ s' ih23 hF ⟨g19, hg19, ok, hws⟩
     refine WP_ws hws ?_
     clear hws s'
     rw [F_lecternref03_All_l0] at hF
     refine Zqgm ?_
     refine Zqc0 ?_
     refine C_if rfl hF (fun hb24 hF => ?_) fun hb24 hF => ?_
     ·refine Zqea ?_
      refine Zqab ?_
      refine C_reg (mdl [(9, 1)]) ?_
      refine Zqak ?_
      refine Zqah ?_
      refine cl (F_lecternref03_One_ok _ hF fun x25 _ hF => ?_)
      refine Zqdt ?_
      refine S_all1 ok rfl ty_zc_37 ?_
      intro i26 hi26 ok
      refine S_st (j := 0) (cs' := [.int .i64 x25.1.Kind, .int .i64 x25.1.At, .str x25.1.Name, .sl 2 (List.map c_T_scan_Pair x25.1.Pairs) 0, .str x25.1.Text, .int .i64 x25.1.Refs]) ok rfl rfl rfl hi26 rfl ty_sz_37 rfl rfl (fun ok => ?_)
      refine Zqes ?_
      refine C_if rfl hF (fun hb27 hF => ?_) fun hb27 hF => ?_
      ·refine Zqd5 ?_
       refine S_a (v := .snil) rfl ?_
       refine S_one 2 (v := .sl 6 (List.map c_T_lecternref03_Token ([] : List T_lecternref03_Token)) 0) (.nil _) ?_
       refine Zqcf ?_
       replace hF := hG21 _ (F_some hF)
       exact rt
      ·refine Zqfl ?_
       refine S_faP rfl ty_fd_37_1 ty_sz_3 ?_
       refine S_st (j := 0) (cs' := [.int .i64 x25.1.Kind, .int .i64 a17, .str x25.1.Name, .sl 2 (List.map c_T_scan_Pair x25.1.Pairs) 0, .str x25.1.Text, .int .i64 x25.1.Refs]) ok rfl rfl rfl hi26 rfl ty_sz_3 rfl rfl (fun ok => ?_)
       refine Zqdi ?_
       refine C_reg (mdl [(48, 2)]) ?_
       refine Zqas ?_
       refine S_ldP (j := 0) ok rfl rfl rfl hi26 (p_agg (vs := c_T_lecternref03_Token (⟨x25.1.Kind, a17, x25.1.Name, x25.1.Pairs, x25.1.Text, x25.1.Refs⟩ : T_lecternref03_Token)) ty_ag_37 ty_sz_37 rfl rfl) ?_
       refine S_lit0 (cs := [.int .i64 (⟨x25.1.Kind, a17, x25.1.Name, x25.1.Pairs, x25.1.Text, x25.1.Refs⟩ : T_lecternref03_Token).Kind, .int .i64 (⟨x25.1.Kind, a17, x25.1.Name, x25.1.Pairs, x25.1.Text, x25.1.Refs⟩ : T_lecternref03_Token).At, .str (⟨x25.1.Kind, a17, x25.1.Name, x25.1.Pairs, x25.1.Text, x25.1.Refs⟩ : T_lecternref03_Token).Name, .sl 2 (List.map c_T_scan_Pair (⟨x25.1.Kind, a17, x25.1.Name, x25.1.Pairs, x25.1.Text, x25.1.Refs⟩ : T_lecternref03_Token).Pairs) 0, .str (⟨x25.1.Kind, a17, x25.1.Name, x25.1.Pairs, x25.1.Text, x25.1.Refs⟩ : T_lecternref03_Token).Text, .int .i64 (⟨x25.1.Kind, a17, x25.1.Name, x25.1.Pairs, x25.1.Text, x25.1.Refs⟩ : T_lecternref03_Token).Refs]) (es := (List.map c_T_lecternref03_Token [(⟨x25.1.Kind, a17, x25.1.Name, x25.1.Pairs, x25.1.Text, x25.1.Refs⟩ : T_lecternref03_Token)])) rfl ty_el_29 rfl (by kernel_rfl) (by kernel_rfl) ?_
       refine S_app (j := 1) ok rfl rfl rfl rfl hg19 ty_el_29 ty_ni_29 hF ?_
       intro r28 hr28 ok hF
       refine Zqd0 ?_
       refine Zqdj ?_
       refine Zqb5 ?_
       refine ih23 (x25.2.1, (a18 ++ [(⟨x25.1.Kind, a17, x25.1.Name, x25.1.Pairs, x25.1.Text, x25.1.Refs⟩ : T_lecternref03_Token)])) _ hF ?_
       exact ⟨r28, hr28, oy ok, wy ok⟩
     ·refine Zqcs ?_
      replace hF := hG21 _ (F_some hF)
      exact ⟨a18, hF, g19, hg19, oy ok, wy ok⟩
   ·rintro a14 s' hF ⟨g15, hg15, ok, hws⟩
    refine WP_ws hws ?_
    clear hws s'
    refine Zqcu ?_
    refine S_one 50 (v := .sl 6 (List.map c_T_lecternref03_Token a14) 0) (.zero _ _ _) ?_
    refine Zqbb ?_
    refine Zqcf ?_
    exact rt
theorem F_lecternref03_All_ok {β : Type} {f : (List T_lecternref03_Token) × Int × Int → Option β} {G : β → Prop} {R : D → Heap → Prop} {p0 : List UInt8} (h : Heap) (hF : OptP ((F_lecternref03_All p0).bind f) G) (hk : ∀ r, F_lecternref03_All p0 = some r → OptP (f r) G → R (.tup [.sl 6 (List.map c_T_lecternref03_Token r.1) 0, .int .i64 r.2.1, .int .i64 r.2.2]) h) : CallsA Tryz.prog 8 [.sl 1 (List.map c_u8 p0) 0] h R := by
 obtain ⟨r0, hr, hF⟩ := F_bind hF
 refine (F_lecternref03_All_w (G := fun r => r = r0) p0 h ⟨r0, hr, rfl⟩).mono ?_
 rintro _ _ ⟨r, rfl, rfl, rfl⟩
 exact hk _ hr hF
theorem F_lecternlaw03_doc_w (p0 : T_scan_Token) {G : T_lecternref03_Token → Prop} (h : Heap) (hF : OptP (F_lecternlaw03_doc p0) G) : CallsA Tryz.prog 13 [.agg (c_T_scan_Token p0)] h fun d h' => ∃ r, G r ∧ d = .agg (c_T_lecternref03_Token r) ∧ h' = h := by
 refine CallsA.ret ?_
 refine C_body Tryz.func13 rfl en_13 Tryz.ntmps13 rfl (fun ok => ?_)
 rw [F_lecternlaw03_doc] at hF
 refine Zqab ?_
 refine C_reg (mdl [(2, 1)]) ?_
 refine S_box0 rfl rfl rfl rfl ?_
 refine S_all1 ok rfl ty_zc_37 ?_
 intro i1 hi1 ok
 refine Zqdi ?_
 refine C_reg (mdl [(3, 1)]) ?_
 refine S_faQ rfl ty_fd_41_0 ty_sz_3 rfl ?_
 refine Zqbl ?_
 refine S_faQ rfl ty_fd_41_1 ty_sz_3 rfl ?_
 refine Zqbl ?_
 refine S_faQ rfl ty_fd_41_2 ty_sz_9 rfl ?_
 refine Zqbn ?_
 refine S_faQ rfl ty_fd_41_4 ty_sz_9 rfl ?_
 refine Zqbn ?_
 refine S_faQ rfl ty_fd_41_5 ty_sz_3 rfl ?_
 refine Zqbl ?_
 refine S_bld (v := .agg [.int .i64 p0.Kind, .int .i64 p0.At, .str p0.Name, .snil, .str p0.Text, .int .i64 p0.Refs]) (b_st ty_zc_37 ty_pl_37 rfl) ?_
 refine S_all1 ok rfl ty_zc_37 ?_
 intro i2 hi2 ok
 refine S_st (j := 0) (cs' := [.int .i64 p0.Kind, .int .i64 p0.At, .str p0.Name, .snil, .str p0.Text, .int .i64 p0.Refs]) ok rfl rfl rfl hi2 rfl ty_sz_37 rfl rfl (fun ok => ?_)
 refine S_ghostO 0 3 2 (fun r3 => [.int .i64 p0.Kind, .int .i64 p0.At, .str p0.Name, .sl 2 (List.map c_T_scan_Pair ([] : List T_scan_Pair)) r3, .str p0.Text, .int .i64 p0.Refs]) ok rfl hi2 rfl (fun _ => rfl) ?_
 intro r3 hr3 ok
 refine Zqaa ?_
 refine C_join hF (fun (v : Int × Int × (List UInt8) × (List T_scan_Pair) × (List UInt8) × Int) s' => match v with | (a16, a17, a18, a19, a21, a22) => ∃ g20 : Nat, g20 ≠ 0 ∧ OK h [(g20, .room), (i2, .cells [.int .i64 a16, .int .i64 a17, .str a18, .sl 2 (List.map c_T_scan_Pair a19) g20, .str a21, .int .i64 a22]), (i1, .cells [.int .i64 (0 : Int), .int .i64 (0 : Int), .str ([] : List UInt8), .sl 2 (List.map c_T_scan_Pair ([] : List T_scan_Pair)) 0, .str ([] : List UInt8), .int .i64 (0 : Int)])] ∧ WS s' ⟨mkSl 36 [(2, .ptr i1 0), (3, .ptr i2 0)], Hp h [(g20, .room), (i2, .cells [.int .i64 a16, .int .i64 a17, .str a18, .sl 2 (List.map c_T_scan_Pair a19) g20, .str a21, .int .i64 a22]), (i1, .cells [.int .i64 (0 : Int), .int .i64 (0 : Int), .str ([] : List UInt8), .sl 2 (List.map c_T_scan_Pair ([] : List T_scan_Pair)) 0, .str ([] : List UInt8), .int .i64 (0 : Int)])]⟩) (fun J23 hF => ?_) ?_
 ·refine Zqb1 ?_
  refine S_faQ rfl ty_fd_41_3 ty_sz_39 rfl ?_
  refine S_ldQ rfl (p_one ty_ag_39 ty_sz_39 rfl) ?_
  refine S_lenL rfl ty_sl_39 ?_
  refine Zqfc ?_
  refine C_loop (σ := Int × Int × (List UInt8) × (List T_scan_Pair) × (List UInt8) × Int × Int) hF (fun (v : Int × Int × (List UInt8) × (List T_scan_Pair) × (List UInt8) × Int × Int) s' => match v with | (a24, a25, a26, a27, a29, a30, a31) => ∃ g28 : Nat, g28 ≠ 0 ∧ OK h [(g28, .room), (i2, .cells [.int .i64 a24, .int .i64 a25, .str a26, .sl 2 (List.map c_T_scan_Pair a27) g28, .str a29, .int .i64 a30]), (i1, .cells [.int .i64 (0 : Int), .int .i64 (0 : Int), .str ([] : List UInt8), .sl 2 (List.map c_T_scan_Pair ([] : List T_scan_Pair)) 0, .str ([] : List UInt8), .int .i64 (0 : Int)])] ∧ WS s' ⟨mkSl 36 [(2, .ptr i1 0), (3, .ptr i2 0), (18, .sl 2 (List.map c_T_scan_Pair p0.Pairs) 0), (19, .int .i64 (p0.Pairs.length : Int)), (20, .int .i64 a31)], Hp h [(g28, .room), (i2, .cells [.int .i64 a24, .int .i64 a25, .str a26, .sl 2 (List.map c_T_scan_Pair a27) g28, .str a29, .int .i64 a30]), (i1, .cells [.int .i64 (0 : Int), .int .i64 (0 : Int), .str ([] : List UInt8), .sl 2 (List.map c_T_scan_Pair ([] : List T_scan_Pair)) 0, .str ([] : List UInt8), .int .i64 (0 : Int)])]⟩) ?_ ?_
  ·have hwo : WO [(r3, .room), (i2, .cells [.int .i64 p0.Kind, .int .i64 p0.At, .str p0.Name, .sl 2 (List.map c_T_scan_Pair ([] : List T_scan_Pair)) r3, .str p0.Text, .int .i64 p0.Refs]), (i1, .cells [.int .i64 (0 : Int), .int .i64 (0 : Int), .str ([] : List UInt8), .snil, .str ([] : List UInt8), .int .i64 (0 : Int)])] [(r3, .room), (i2, .cells [.int .i64 p0.Kind, .int .i64 p0.At, .str p0.Name, .sl 2 (List.map c_T_scan_Pair ([] : List T_scan_Pair)) r3, .str p0.Text, .int .i64 p0.Refs]), (i1, .cells [.int .i64 (0 : Int), .int .i64 (0 : Int), .str ([] : List UInt8), .sl 2 (List.map c_T_scan_Pair ([] : List T_scan_Pair)) 0, .str ([] : List UInt8), .int .i64 (0 : Int)])] := (.keep (.keep (.weak (.cons (.refl _) (.cons (.refl _) (.cons (.refl _) (.cons (.nil _) (.cons (.refl _) (.cons (.refl _) (.nil))))))) .nil)))
   exact ⟨r3, hr3, (hwo.spec ok).1, WS.mk' (.cons (.refl _) (.cons (.refl _) (.cons (.refl _) (.cons (.refl _) (.cons (.refl _) .nil))))) ok hwo⟩
  ·rintro G32 hG33 rec34 ⟨a24, a25, a26, a27, a29, a30, a31⟩ s' ih35 hF ⟨g28, hg28, ok, hws⟩
   refine WP_ws hws ?_
   clear hws s'
   rw [F_lecternlaw03_doc_l0] at hF
   refine Zqfe ?_
   refine C_if rfl hF (fun hb36 hF => ?_) fun hb36 hF => ?_
   ·refine Zqem ?_
    refine Zqab ?_
    refine C_reg (mdl [(5, 1)]) ?_
    refine S_ix rfl rfl ty_sl_39 ty_sz_44 hF (fun x37 _ hF => ?_)
    refine S_ldQ rfl (p_agg (vs := c_T_scan_Pair x37) ty_ag_44 ty_sz_44 rfl rfl) ?_
    refine S_all1 ok rfl ty_zc_44 ?_
    intro i38 hi38 ok
    refine S_st (j := 0) (cs' := [.str x37.Name, .str x37.Value]) ok rfl rfl rfl hi38 rfl ty_sz_44 rfl rfl (fun ok => ?_)
    refine Zqaa ?_
    refine C_reg (mdl [(32, 2)]) ?_
    refine Zqbq ?_
    refine S_ldP (j := 2) ok rfl rfl rfl (by assumption) (p_one (v := .sl _ _ _) ty_ag_35 ty_sz_35 rfl) ?_
    refine Zqbw ?_
    refine Zqbx ?_
    refine S_faP rfl ty_fd_44_1 ty_sz_9 ?_
    refine Zqbx ?_
    refine S_bld (v := .agg (c_T_scan_Pair x37)) (b_st ty_zc_57 ty_pl_57 rfl) ?_
    refine S_lit0 (cs := [.str x37.Name, .str x37.Value]) (es := (List.map c_T_scan_Pair [x37])) rfl ty_el_35 rfl (by kernel_rfl) (by kernel_rfl) ?_
    refine S_app (j := 1) ok rfl rfl rfl rfl hg28 ty_el_35 ty_ni_35 hF ?_
    intro r39 hr39 ok hF
    refine Zqbq ?_
    refine S_st (j := 2) (cs' := [.int .i64 a24, .int .i64 a25, .str a26, .sl 2 (List.map c_T_scan_Pair (a27 ++ [x37])) r39, .str a29, .int .i64 a30]) ok rfl rfl rfl hi2 rfl ty_sz_35 rfl rfl (fun ok => ?_)
    refine Zqaa ?_
    refine Zqfg ?_
    refine ih35 (a24, a25, a26, (a27 ++ [x37]), a29, a30, (IntKind.wrap .i64 (a31 + (1 : Int)))) _ hF ?_
    exact ⟨r39, hr39, oy ok, wy ok⟩
   ·refine Zqcs ?_
    replace hF := hG33 _ (F_some hF)
    exact ⟨(a24, a25, a26, a27, a29, a30), hF, g28, hg28, oy ok, wy ok⟩
 ·rintro ⟨a16, a17, a18, a19, a21, a22⟩ s' hF ⟨g20, hg20, ok, hws⟩
  refine WP_ws hws ?_
  clear hws s'
  refine Zqb1 ?_
  refine S_ldP (j := 1) ok rfl rfl rfl hi2 (p_agg (vs := [.int .i64 a16, .int .i64 a17, .str a18, .sl 2 (List.map c_T_scan_Pair a19) g20, .str a21, .int .i64 a22]) ty_ag_37 ty_sz_37 rfl rfl) ?_
  refine S_one 35 (v := .agg (c_T_lecternref03_Token (⟨a16, a17, a18, a19, a21, a22⟩ : T_lecternref03_Token))) (.aggC (.cons (.refl _) (.cons (.refl _) (.cons (.refl _) (.cons (.zero _ _ _) (.cons (.refl _) (.cons (.refl _) (.nil)))))))) ?_
  refine S_st (j := 2) (cs' := [.int .i64 (⟨a16, a17, a18, a19, a21, a22⟩ : T_lecternref03_Token).Kind, .int .i64 (⟨a16, a17, a18, a19, a21, a22⟩ : T_lecternref03_Token).At, .str (⟨a16, a17, a18, a19, a21, a22⟩ : T_lecternref03_Token).Name, .sl 2 (List.map c_T_scan_Pair (⟨a16, a17, a18, a19, a21, a22⟩ : T_lecternref03_Token).Pairs) 0, .str (⟨a16, a17, a18, a19, a21, a22⟩ : T_lecternref03_Token).Text, .int .i64 (⟨a16, a17, a18, a19, a21, a22⟩ : T_lecternref03_Token).Refs]) ok rfl rfl rfl hi1 rfl ty_sz_37 rfl rfl (fun ok => ?_)
  refine Zqaa ?_
  refine Zqaj ?_
  refine xr ?_
  refine C_ret (fn := Tryz.f13) rfl (.cell rfl (ld_ptr (j := 2) ok rfl hi1 (p_agg (vs := [.int .i64 (⟨a16, a17, a18, a19, a21, a22⟩ : T_lecternref03_Token).Kind, .int .i64 (⟨a16, a17, a18, a19, a21, a22⟩ : T_lecternref03_Token).At, .str (⟨a16, a17, a18, a19, a21, a22⟩ : T_lecternref03_Token).Name, .sl 2 (List.map c_T_scan_Pair (⟨a16, a17, a18, a19, a21, a22⟩ : T_lecternref03_Token).Pairs) 0, .str (⟨a16, a17, a18, a19, a21, a22⟩ : T_lecternref03_Token).Text, .int .i64 (⟨a16, a17, a18, a19, a21, a22⟩ : T_lecternref03_Token).Refs]) ty_ag_37 ty_sz_37 rfl rfl)) .nil) ?_
  exact ⟨_, _, (.aggC (.cons (.refl _) (.cons (.refl _) (.cons (.refl _) (.cons (.refl _) (.cons (.refl _) (.cons (.refl _) (.nil)))))))), ok.wh, _, F_some hF, rfl, rfl⟩
theorem F_lecternlaw03_doc_ok {β : Type} {f : T_lecternref03_Token → Option β} {G : β → Prop} {R : D → Heap → Prop} {p0 : T_scan_Token} (h : Heap) (hF : OptP ((F_lecternlaw03_doc p0).bind f) G) (hk : ∀ r, F_lecternlaw03_doc p0 = some r → OptP (f r) G → R (.agg (c_T_lecternref03_Token r)) h) : CallsA Tryz.prog 13 [.agg (c_T_scan_Token p0)] h R := by
 obtain ⟨r0, hr, hF⟩ := F_bind hF
 refine (F_lecternlaw03_doc_w (G := fun r => r = r0) p0 h ⟨r0, hr, rfl⟩).mono ?_
 rintro _ _ ⟨r, rfl, rfl, rfl⟩
 exact hk _ hr hF
theorem F_lecternref03_Same_w (p0 : T_lecternref03_Token) (p1 : T_lecternref03_Token) {G : Bool → Prop} (h : Heap) (hF : OptP (F_lecternref03_Same p0 p1) G) : CallsA Tryz.prog 12 [.agg (c_T_lecternref03_Token p0), .agg (c_T_lecternref03_Token p1)] h fun d h' => ∃ r, G r ∧ d = .bool r ∧ h' = h := by
 refine CallsA.ret ?_
 refine C_body Tryz.func12 rfl en_12 Tryz.ntmps12 rfl (fun ok => ?_)
 rw [F_lecternref03_Same] at hF
 refine Zqb1 ?_
 refine S_box0 rfl rfl rfl rfl ?_
 refine S_box0 rfl rfl rfl rfl ?_
 refine Zqcb ?_
 refine Zqab ?_
 refine Zqb1 ?_
 refine S_faQ rfl ty_fd_37_0 ty_sz_3 rfl ?_
 refine Zqbl ?_
 refine S_faQ rfl ty_fd_37_0 ty_sz_3 rfl ?_
 refine Zqbl ?_
 refine Zqgg ?_
 refine S_two (b := (p0.Kind != p1.Kind)) 6 17 (.bool ((p0.Kind != p1.Kind) || (!(p0.Name == p1.Name)))) (fun hb1 => ?_) (fun hb1 => ?_) ?_
 ·refine Zqfn ?_
  exact th
 ·refine Zqb2 ?_
  refine S_faQ rfl ty_fd_37_2 ty_sz_9 rfl ?_
  refine Zqb4 ?_
  refine Zqbn ?_
  refine Zqb4 ?_
  refine S_faQ rfl ty_fd_37_2 ty_sz_9 rfl ?_
  refine Zqb4 ?_
  refine Zqbn ?_
  refine Zqb4 ?_
  refine Zqbp ?_
  refine Zqcp ?_
  exact th
 refine Zqam ?_
 refine S_two (b := ((p0.Kind != p1.Kind) || (!(p0.Name == p1.Name)))) 6 24 (.bool (((p0.Kind != p1.Kind) || (!(p0.Name == p1.Name))) || (!(p0.Text == p1.Text)))) (fun hb2 => ?_) (fun hb2 => ?_) ?_
 ·refine Zqfn ?_
  exact th
 ·refine Zqb2 ?_
  refine S_faQ rfl ty_fd_37_4 ty_sz_9 rfl ?_
  refine Zqb4 ?_
  refine Zqbn ?_
  refine Zqb4 ?_
  refine S_faQ rfl ty_fd_37_4 ty_sz_9 rfl ?_
  refine Zqb4 ?_
  refine Zqbn ?_
  refine Zqb4 ?_
  refine Zqbp ?_
  refine Zqcp ?_
  exact th
 refine Zqam ?_
 refine S_two (b := (((p0.Kind != p1.Kind) || (!(p0.Name == p1.Name))) || (!(p0.Text == p1.Text)))) 6 31 (.bool ((((p0.Kind != p1.Kind) || (!(p0.Name == p1.Name))) || (!(p0.Text == p1.Text))) || (p0.Refs != p1.Refs))) (fun hb3 => ?_) (fun hb3 => ?_) ?_
 ·refine Zqfn ?_
  exact th
 ·refine Zqb2 ?_
  refine S_faQ rfl ty_fd_37_5 ty_sz_3 rfl ?_
  refine Zqb4 ?_
  refine Zqbl ?_
  refine Zqb4 ?_
  refine S_faQ rfl ty_fd_37_5 ty_sz_3 rfl ?_
  refine Zqb4 ?_
  refine Zqbl ?_
  refine Zqgk ?_
  exact th
 refine Zqam ?_
 refine S_two (b := ((((p0.Kind != p1.Kind) || (!(p0.Name == p1.Name))) || (!(p0.Text == p1.Text))) || (p0.Refs != p1.Refs))) 8 40 (.bool (((((p0.Kind != p1.Kind) || (!(p0.Name == p1.Name))) || (!(p0.Text == p1.Text))) || (p0.Refs != p1.Refs)) || ((p0.Pairs.length : Int) != (p1.Pairs.length : Int)))) (fun hb4 => ?_) (fun hb4 => ?_) ?_
 ·refine Zqck ?_
  refine Zqfy ?_
  exact th
 ·refine Zqb2 ?_
  refine Zqbt ?_
  refine Zqb4 ?_
  refine Zqbu ?_
  refine Zqb4 ?_
  refine S_lenL rfl ty_sl_35 ?_
  refine Zqb4 ?_
  refine Zqbt ?_
  refine Zqb4 ?_
  refine Zqbu ?_
  refine Zqb4 ?_
  refine S_lenL rfl ty_sl_35 ?_
  refine Zqgk ?_
  exact th
 refine Zqaa ?_
 refine C_if rfl hF (fun hb5 hF => ?_) fun hb5 hF => ?_
 ·refine Zqdc ?_
  exact rt
 ·refine Zqal ?_
  refine C_join hF (fun (_ : Unit) s' => OK h [] ∧ WS s' ⟨mkSl 59 [], Hp h []⟩) (fun J11 hF => ?_) ?_
  ·refine Zqb1 ?_
   refine Zqbt ?_
   refine Zqbu ?_
   refine S_lenL rfl ty_sl_35 ?_
   refine Zqfc ?_
   refine C_loop (σ := Int) hF (fun (a12 : Int) s' => OK h [] ∧ WS s' ⟨mkSl 59 [(2, .iptr (c_T_lecternref03_Token p0)), (3, .iptr (c_T_lecternref03_Token p1)), (43, .int .i64 (p0.Pairs.length : Int)), (44, .int .i64 a12)], Hp h []⟩) ?_ ?_
   ·exact ⟨oy ok, wy ok⟩
   ·rintro G13 hG14 rec15 a12 s' ih16 hF ⟨ok, hws⟩
    refine WP_ws hws ?_
    clear hws s'
    rw [F_lecternref03_Same_l0] at hF
    refine Zqfe ?_
    refine C_if rfl hF (fun hb17 hF => ?_) fun hb17 hF => ?_
    ·refine Zqem ?_
     refine Zqb7 ?_
     refine Zqeu ?_
     refine C_drw (mdl [(48, 3), (51, 3), (53, 3), (56, 3)]) (by kernel_rfl) (by kernel_rfl) ?_
     refine Zqbt ?_
     refine Zqbu ?_
     refine Zqah ?_
     refine S_ix rfl rfl ty_sl_35 ty_sz_57 hF (fun x18 _ hF => ?_)
     refine S_ldQ rfl (p_agg (vs := c_T_scan_Pair x18) ty_ag_57 ty_sz_57 rfl rfl) ?_
     refine Zqbt ?_
     refine Zqbu ?_
     refine Zqah ?_
     refine S_ix rfl rfl ty_sl_35 ty_sz_57 hF (fun x19 _ hF => ?_)
     refine S_ldQ rfl (p_agg (vs := c_T_scan_Pair x19) ty_ag_57 ty_sz_57 rfl rfl) ?_
     refine S_bin rfl rfl (e_aggn (b := ((x18.Name == x19.Name) && ((x18.Value == x19.Value) && true))) ty_qg_57 ty_sf_57 (by simp only [c_T_scan_Pair, ev_eqF_cons, ev_eqF_nil, ev_part, ty_sf_57, ty_qg_57, ty_ag_9, ty_sz_9, ty_st_9, ty_ag_9, ty_sz_9, ty_st_9, ev_eq_int, ev_eq_str, ev_eq_bool, ev_eq_agg, ev_eq_int2, ev_eq_str2, ev_eq_bool2, List.drop_zero, List.drop_succ_cons, List.length_cons, List.length_nil, List.take_succ_cons, List.take_zero, Option.isSome_some, if_true, Option.bind_some, Option.map_some, Nat.reduceAdd, Nat.reduceLeDiff])) ?_
     refine Zqaa ?_
     refine C_if rfl hF (fun hb20 hF => ?_) fun hb20 hF => ?_
     ·refine Zqdc ?_
      replace hF := hG14 _ (F_some hF)
      exact rt
     ·refine Zqal ?_
      refine Zqfg ?_
      refine ih16 (IntKind.wrap .i64 (a12 + (1 : Int))) _ hF ?_
      exact ⟨oy ok, wy ok⟩
    ·refine Zqcs ?_
     replace hF := hG14 _ (F_some hF)
     exact ⟨(), hF, oy ok, wy ok⟩
  ·rintro ⟨⟩ s' hF ⟨ok, hws⟩
   refine WP_ws hws ?_
   clear hws s'
   refine Zqdc ?_
   exact rt
theorem F_lecternref03_Same_ok {β : Type} {f : Bool → Option β} {G : β → Prop} {R : D → Heap → Prop} {p0 : T_lecternref03_Token} {p1 : T_lecternref03_Token} (h : Heap) (hF : OptP ((F_lecternref03_Same p0 p1).bind f) G) (hk : ∀ r, F_lecternref03_Same p0 p1 = some r → OptP (f r) G → R (.bool r) h) : CallsA Tryz.prog 12 [.agg (c_T_lecternref03_Token p0), .agg (c_T_lecternref03_Token p1)] h R := by
 obtain ⟨r0, hr, hF⟩ := F_bind hF
 refine (F_lecternref03_Same_w (G := fun r => r = r0) p0 p1 h ⟨r0, hr, rfl⟩).mono ?_
 rintro _ _ ⟨r, rfl, rfl, rfl⟩
 exact hk _ hr hF
theorem F_lecternref01_Same_w (p0 : List UInt8) (p1 : List UInt8) {G : Bool → Prop} (h : Heap) (hF : OptP (F_lecternref01_Same p0 p1) G) : CallsA Tryz.prog 21 [.sl 1 (List.map c_u8 p0) 0, .sl 1 (List.map c_u8 p1) 0] h fun d h' => ∃ r, G r ∧ d = .bool r ∧ h' = h := by
 refine CallsA.ret ?_
 refine C_body Tryz.func21 rfl en_21 Tryz.ntmps21 rfl (fun ok => ?_)
 rw [F_lecternref01_Same] at hF
 refine Zqdb ?_
 refine Zqcu ?_
 refine Zqbe ?_
 refine Zqas ?_
 refine Zqbe ?_
 refine Zqba ?_
 refine Zqcl ?_
 exact rt
theorem F_lecternref01_Same_ok {β : Type} {f : Bool → Option β} {G : β → Prop} {R : D → Heap → Prop} {p0 : List UInt8} {p1 : List UInt8} (h : Heap) (hF : OptP ((F_lecternref01_Same p0 p1).bind f) G) (hk : ∀ r, F_lecternref01_Same p0 p1 = some r → OptP (f r) G → R (.bool r) h) : CallsA Tryz.prog 21 [.sl 1 (List.map c_u8 p0) 0, .sl 1 (List.map c_u8 p1) 0] h R := by
 obtain ⟨r0, hr, hF⟩ := F_bind hF
 refine (F_lecternref01_Same_w (G := fun r => r = r0) p0 p1 h ⟨r0, hr, rfl⟩).mono ?_
 rintro _ _ ⟨r, rfl, rfl, rfl⟩
 exact hk _ hr hF
theorem F_lecternref01_Kept_w (p0 : List UInt8 × List UInt8) (p1 : List UInt8) {G : Bool → Prop} (h : Heap) (hF : OptP (F_lecternref01_Kept p0 p1) G) : CallsA Tryz.prog 11 [.slx 1 (List.map c_u8 p0.1) (List.map c_u8 p0.2), .sl 1 (List.map c_u8 p1) 0] h fun d h' => ∃ r, G r ∧ d = .bool r ∧ h' = h := by
 refine CallsA.ret ?_
 refine C_body Tryz.func11 rfl en_11 Tryz.ntmps11 rfl (fun ok => ?_)
 rw [F_lecternref01_Kept] at hF
 refine Zqdb ?_
 refine Zqb1 ?_
 refine S_m (v := .slx _ _ _) rfl ?_
 refine Zqas ?_
 refine S_call (F_lecternref01_Same_ok _ hF fun x1 _ hF => ?_) (.cons (.slx _ _ _) (.cons (.refl _) (.nil)))
 refine Zqam ?_
 refine S_twoJ 6 14 hF (fun J3 hb2 hF => ?_) (fun J3 hb2 hF => ?_) (fun v4 hF => ?_)
 ·refine Zqb2 ?_
  refine S_m (v := .slx _ _ _) rfl ?_
  refine Zqb4 ?_
  refine S_capX rfl ty_sl_22 (fun m5 hm5 => ?_)
  refine Zqb4 ?_
  refine S_m (v := .slx _ _ _) rfl ?_
  refine Zqaa ?_
  refine S_oneX 11 rfl ?_
  refine Zqb2 ?_
  refine Zqez ?_
  obtain ⟨x6, hx6, hF⟩ := F_bind hF
  have hcx := capx_gt hm5 hx6
  refine Zqbg ?_
  refine Zqaa ?_
  rw [hcx]
  refine Zqb8 ?_
  exact tw
 ·refine Zqeh ?_
  exact tw
 ·refine Zqam ?_
  refine S_twoJ 11 26 hF (fun J8 hb7 hF => ?_) (fun J8 hb7 hF => ?_) (fun v9 hF => ?_)
  ·refine Zqb2 ?_
   refine S_m (v := .slx _ _ _) rfl ?_
   refine Zqb4 ?_
   refine S_m (v := .slx _ _ _) rfl ?_
   refine Zqaa ?_
   refine S_oneX 17 rfl ?_
   refine Zqb2 ?_
   refine Zqez ?_
   refine Zqe5 ?_
   refine S_slX (e := p0.1) (sp := p0.2) rfl ty_sl_22 ty_sz_5 rfl hF (fun x10 _ hF => ?_)
   refine Zqaa ?_
   refine S_oneX 20 rfl ?_
   refine Zqb2 ?_
   refine S_m (v := .slx _ _ _) rfl ?_
   refine Zqaa ?_
   refine S_oneX 21 rfl ?_
   refine Zqb2 ?_
   refine Zqez ?_
   refine S_ix rfl rfl ty_sl_22 ty_sz_5 hF (fun x11 _ hF => ?_)
   refine Zqf4 ?_
   exact tw
  ·refine Zqck ?_
   refine Zqf3 ?_
   exact tw
  ·refine Zqcl ?_
   exact rt
theorem F_lecternref01_Kept_ok {β : Type} {f : Bool → Option β} {G : β → Prop} {R : D → Heap → Prop} {p0 : List UInt8 × List UInt8} {p1 : List UInt8} (h : Heap) (hF : OptP ((F_lecternref01_Kept p0 p1).bind f) G) (hk : ∀ r, F_lecternref01_Kept p0 p1 = some r → OptP (f r) G → R (.bool r) h) : CallsA Tryz.prog 11 [.slx 1 (List.map c_u8 p0.1) (List.map c_u8 p0.2), .sl 1 (List.map c_u8 p1) 0] h R := by
 obtain ⟨r0, hr, hF⟩ := F_bind hF
 refine (F_lecternref01_Kept_w (G := fun r => r = r0) p0 p1 h ⟨r0, hr, rfl⟩).mono ?_
 rintro _ _ ⟨r, rfl, rfl, rfl⟩
 exact hk _ hr hF
end Go.Proofs.YtfokkdofcekdbaaGreatDoor
