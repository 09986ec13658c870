/- The walks. No condition. -/
import Derived.Test.YtilhbalhkljanaaGreatDoorWs
import Derived.Test.YtilhbalhkljanaaGreatDoorWk2
set_option linter.unusedVariables false
set_option linter.unusedSimpArgs false
set_option maxRecDepth 20000
set_option maxHeartbeats 8000000
namespace Go.Proofs.YtilhbalhkljanaaGreatDoor
theorem F_parse_reader_close_w (p0 : T_parse_reader) (q0 : Nat) (b0_0 : Nat) (x0 : List (T_parse_open × Nat)) {G : T_parse_reader → Prop} (h : Heap) (O : List (Nat × AObj)) (hq0 : q0 ≠ 0) (hb0_0 : b0_0 ≠ 0) (hx0 : List.map Prod.fst x0 = p0.open_) (zk0 : zkR x0) (ok : OK h ((q0, .cells [.msl 8 b0_0 0 (List.length p0.open_), .I p0.nodes, .bool p0.done]) :: (b0_0, .cells (fl cK (List.reverse x0))) :: (hidR x0 ++ O))) (hF : OptP (F_parse_reader_close p0) G) : CallsA Tryz.prog 52 [.ptr q0 0] (Hp h ((q0, .cells [.msl 8 b0_0 0 (List.length p0.open_), .I p0.nodes, .bool p0.done]) :: (b0_0, .cells (fl cK (List.reverse x0))) :: (hidR x0 ++ O))) fun d h' => ∃ r, G r ∧ d = .tup [] ∧ ∃ (b0_0' : Nat) (x0' : List (T_parse_open × Nat)), b0_0' ≠ 0 ∧ List.map Prod.fst x0' = r.open_ ∧ zkR x0' ∧ OK h ((q0, .cells [.msl 8 b0_0' 0 (List.length r.open_), .I r.nodes, .bool r.done]) :: (b0_0', .cells (fl cK (List.reverse x0'))) :: (hidR x0' ++ O)) ∧ h' = Hp h ((q0, .cells [.msl 8 b0_0' 0 (List.length r.open_), .I r.nodes, .bool r.done]) :: (b0_0', .cells (fl cK (List.reverse x0'))) :: (hidR x0' ++ O)) := by
  refine CallsA.ret (C_bodyO Tryz.func52 rfl en_52 Tryz.ntmps52 rfl ?_)
  rw [F_parse_reader_close] at hF
  refine C_seq (C_reg (mdl [(2, 1)]) (Mp rfl (S_call (top_ok (e := p0.open_) (j := 0) ok rfl hq0 hF fun x1 he2 hF => ?_) (.cons (.refl _) .nil))))
  obtain ⟨t3, xs4, rfl, hx5⟩ := stk_open hx0 he2
  have zt6 := (zkR_cons.1 zk0).1
  have zs7 := (zkR_cons.1 zk0).2
  have hp8 := fl_len cK_len hx5
  have hck : cK (x1.1, t3) = [.I x1.1.node.Kind, .str x1.1.node.Name.URI, .str x1.1.node.Name.Local, .sl 3 (List.map c_T_api_Attr x1.1.node.Attrs) 0, mslO 6 t3 x1.1.node.Kids, .str x1.1.node.Text, .str x1.1.raw, .sl 2 (List.map c_T_scope_bind x1.1.in_.binds) 0] := rfl
  rw [fl_rev, hidR_cons, List.cons_append, hck] at ok
  rw [fl_rev, hidR_cons, List.cons_append, hck]
  clear hck
  refine S_nilc (v := .ptr _ _) rfl rfl (S_faP rfl ty_fd_60_0 ty_sz_30 ?_)
  refine S_ldK (j := 1) (f0 := 0) ok rfl rfl rfl hb0_0 (by omega) (p_agg (vs := [.I x1.1.node.Kind, .str x1.1.node.Name.URI, .str x1.1.node.Name.Local, .sl 3 (List.map c_T_api_Attr x1.1.node.Attrs) 0, mslO 6 t3 x1.1.node.Kids, .str x1.1.node.Text]) ty_ag_30 ty_sz_30 rfl rfl) ?_
  refine S_frzA (c := c_T_api_Node) (e := x1.1.node.Kids) (cs' := c_T_api_Node x1.1.node) 2 8 4 ok zt6 rfl rfl c_T_api_Node_len rfl (by rw [c_T_api_Node_eq]; rfl) (fun ok => ?_)
  refine S_all1 ok rfl ty_zc_30 ?_
  intro i10 hi10 ok
  refine S_nilB c_T_api_Node ok (fun ok => S_st (j := 1) (cs' := [.I x1.1.node.Kind, .str x1.1.node.Name.URI, .str x1.1.node.Name.Local, .sl 3 (List.map c_T_api_Attr x1.1.node.Attrs) 0, .sl 6 (List.map c_T_api_Node x1.1.node.Kids) 0, .str x1.1.node.Text]) ok rfl (congrArg D.agg (c_T_api_Node_eq x1.1.node)) rfl hi10 rfl ty_sz_30 rfl rfl (fun ok => Sn (C_seq ?_)))
  refine C_drw (mdl []) (by kernel_rfl) (by kernel_rfl) ?_
  refine Mp rfl (Mp rfl (S_nilc (v := .ptr _ _) rfl rfl (S_faP rfl ty_fd_63_0 ty_sz_61 (S_ldP (j := 2) ok rfl rfl rfl hq0 (p_one (v := .msl 8 b0_0 0 (List.length p0.open_)) ty_ag_61 ty_sz_61 rfl) (Mp rfl (S_nilc (v := .ptr _ _) rfl rfl (S_faP rfl ty_fd_63_0 ty_sz_61 (S_ldP (j := 2) ok rfl rfl rfl hq0 (p_one (v := .msl 8 b0_0 0 (List.length p0.open_)) ty_ag_61 ty_sz_61 rfl) (S_lenM (e := p0.open_) rfl ty_sl_61 (S_bin rfl rfl (ev_sub ..) (S_slK (e := p0.open_) rfl ty_sl_61 ty_sz_60 (bd_at rfl) hF (fun x12 he13 hF => ?_))))))))))))
  have hx14 := hx5.trans (List.cons.inj (he2.symm.trans he13)).2
  have hqhx14 := fl_len cK_len hx14
  refine S_nilc (v := .ptr _ _) rfl rfl (S_faP rfl ty_fd_63_0 ty_sz_61 (S_st (j := 2) (cs' := [.msl 8 b0_0 0 (List.length x12.2), .I p0.nodes, .bool p0.done]) ok rfl rfl rfl hq0 rfl ty_sz_61 rfl rfl (fun ok => Sn (CR (S_trim (cs := fl cK (List.reverse xs4)) (ds := [.I x1.1.node.Kind, .str x1.1.node.Name.URI, .str x1.1.node.Name.Local, .sl 3 (List.map c_T_api_Attr x1.1.node.Attrs) 0, mslO 6 t3 x1.1.node.Kids, .str x1.1.node.Text, .str x1.1.raw, .sl 2 (List.map c_T_scope_bind x1.1.in_.binds) 0]) 3 ok rfl hb0_0 (fun ok => Mp rfl (S_call (top_ok (e := x12.2) (j := 2) ok rfl hq0 hF fun x15 he16 hF => ?_) (.cons (.refl _) .nil))))))))
  obtain ⟨t17, xs18, rfl, hx19⟩ := stk_open hx14 he16
  have zt20 := (zkR_cons.1 zs7).1
  have zs21 := (zkR_cons.1 zs7).2
  have hp22 := fl_len cK_len hx19
  have hck : cK (x15.1, t17) = [.I x15.1.node.Kind, .str x15.1.node.Name.URI, .str x15.1.node.Name.Local, .sl 3 (List.map c_T_api_Attr x15.1.node.Attrs) 0, mslO 6 t17 x15.1.node.Kids, .str x15.1.node.Text, .str x15.1.raw, .sl 2 (List.map c_T_scope_bind x15.1.in_.binds) 0] := rfl
  rw [fl_rev, hidR_cons, List.cons_append, hck] at ok
  rw [fl_rev, hidR_cons, List.cons_append, hck]
  clear hck
  refine S_a (v := .ptr _ _) rfl (Sn (C_seq ?_))
  refine C_fork (mdl [(33, 1)]) [0, 1, 2, 3, 4, 5, 6, 7, 8, 9, 11, 12, 13] [10, 14] [14, 10] [_, _, _, _, _, _, _, _, _, _, _, _, _] [_, _] [_, _] (by kernel_rfl) rfl rfl rfl rfl (by kernel_rfl) ?_
  refine Mp rfl (S_nilc (v := .ptr _ _) rfl rfl (S_faP rfl ty_fd_60_0 ty_sz_30 (S_faP rfl ty_fd_30_3 ty_sz_28 ?_)))
  refine S_ldK (j := 3) (f0 := 4) ok rfl rfl rfl hb0_0 (by omega) (p_one (v := mslO 6 t17 x15.1.node.Kids) ty_ag_28 ty_sz_28 rfl) ?_
  refine S_ldP (j := 1) ok rfl rfl rfl hi10 (p_agg (vs := c_T_api_Node x1.1.node) ty_ag_30 ty_sz_30 rfl (c_T_api_Node_eq x1.1.node).symm) (S_lenO zt20 rfl ty_sl_28 ?_)
  refine S_lit0 (cs := [.I 0, .str nB, .str nB, .snil, .snil, .str nB]) (es := [[.I 0, .str nB, .str nB, .snil, .snil, .str nB]]) rfl ty_el_28 rfl (by kernel_rfl) rfl ?_
  refine S_appZ (c := c_T_api_Node) (e := x15.1.node.Kids) (zs := [.I 0, .str nB, .str nB, .snil, .snil, .str nB]) (z0 := (⟨(0 : Int), (⟨nB, nB⟩ : T_api_Name), ([] : List T_api_Attr), ([] : List T_api_Node), nB⟩ : T_api_Node)) (j := 5) ok zt20 rfl rfl rfl rfl c_T_api_Node_len rfl ty_el_28 ty_ni_28 hF ?_
  intro u23 hu23 ok hF
  refine S_ixZ (e := x15.1.node.Kids) rfl rfl ty_sl_28 ty_sz_30 (S_nilc (v := .ptr _ _) rfl rfl (S_faP rfl ty_fd_60_0 ty_sz_30 (S_faP rfl ty_fd_30_3 ty_sz_28 (Sn ?_))))
  refine ⟨?_, ?_⟩
  · refine S_stZ (c := c_T_api_Node) (e := x15.1.node.Kids) (b := x1.1.node) (zs := [.I 0, .str nB, .str nB, .snil, .snil, .str nB]) (j := 5) ok rfl rfl rfl hu23 c_T_api_Node_len rfl rfl ty_sz_30 rfl (fun ok => ?_)
    obtain ⟨a25, ha25, hF⟩ := F_let hF
    rw [← ha25] at ok
    rw [← ha25]
    have hml : .msl 6 u23 0 (List.length x15.1.node.Kids + 1) = mslO 6 u23 a25 := by rw [mslO_pos hu23, ha25, List.length_append]; rfl
    try rw [hml] at ok
    try rw [hml]
    clear hml
    refine S_stKB (j := 3) (f0 := 4) (cs' := [.I x15.1.node.Kind, .str x15.1.node.Name.URI, .str x15.1.node.Name.Local, .sl 3 (List.map c_T_api_Attr x15.1.node.Attrs) 0, mslO 6 u23 a25, .str x15.1.node.Text, .str x15.1.raw, .sl 2 (List.map c_T_scope_bind x15.1.in_.binds) 0]) ok rfl rfl rfl hb0_0 (by omega) ty_sz_28 rfl rfl (fun ok => ?_)
    refine Sn (C_reg (mdl []) (Mp rfl (Mp rfl (S_nilc (v := .ptr _ _) rfl rfl (S_faP rfl ty_fd_63_2 ty_sz_4 (S_ldP (j := 2) ok rfl rfl rfl hq0 (p_one (v := .bool p0.done) ty_ag_4 ty_sz_4 rfl) (Mb rfl ?_)))))))
    refine S_twoJ 7 50 hF (fun J27 hb26 hF => ?_) (fun J27 hb26 hF => ?_) (fun v28 hF => ?_)
    · refine So rfl rfl hb26 (So rfl rfl hb26 (So rfl rfl hb26 (So rfl rfl hb26 (So rfl rfl hb26 (So rfl rfl hb26 (S_pickT (v := .bool _) rfl hb26 rfl (Sn ?_)))))))
      refine ⟨_, hF, .hd (.refl _) ?_⟩
      repeat first | with_reducible exact .refl _ | refine .add ?_ rfl | exact .refl _
    · refine Sx rfl rfl hb26 (Mp rfl (Sn (Sx rfl rfl hb26 (S_nilc (v := .ptr _ _) rfl rfl (Sn (Sx rfl rfl hb26 (S_faP rfl ty_fd_63_0 ty_sz_61 (Sn (Sx rfl rfl hb26 (S_ldP (j := 2) ok rfl rfl rfl hq0 (p_one (v := .msl 8 b0_0 0 (List.length x12.2)) ty_ag_61 ty_sz_61 rfl) (Sn (Sx rfl rfl hb26 (S_lenM (e := x12.2) rfl ty_sl_61 (Sn (Sx rfl rfl hb26 (S_bin rfl rfl (ev_eql ..) (Sn (S_pickF (v := .bool _) rfl hb26 rfl (Sn ?_)))))))))))))))))))
      refine ⟨_, hF, .hd (.refl _) ?_⟩
      repeat first | with_reducible exact .refl _ | refine .add ?_ rfl | exact .refl _
    · refine S_nilc (v := .ptr _ _) rfl rfl (S_faP rfl ty_fd_63_2 ty_sz_4 (S_st (j := 2) (cs' := [.msl 8 b0_0 0 (List.length x12.2), .I p0.nodes, .bool v28]) ok rfl rfl rfl hq0 rfl ty_sz_4 rfl rfl (fun ok => Sn ?_)))
      have hck : cK ((⟨(⟨x15.1.node.Kind, x15.1.node.Name, x15.1.node.Attrs, a25, x15.1.node.Text⟩ : T_api_Node), x15.1.raw, x15.1.in_⟩ : T_parse_open), u23) = [.I x15.1.node.Kind, .str x15.1.node.Name.URI, .str x15.1.node.Name.Local, .sl 3 (List.map c_T_api_Attr x15.1.node.Attrs) 0, mslO 6 u23 a25, .str x15.1.node.Text, .str x15.1.raw, .sl 2 (List.map c_T_scope_bind x15.1.in_.binds) 0] := rfl
      rw [← hck, ← fl_rev (c := cK)] at ok
      rw [← hck, ← fl_rev (c := cK)]
      clear hck
      have hx29 : List.map Prod.fst (((⟨(⟨x15.1.node.Kind, x15.1.node.Name, x15.1.node.Attrs, a25, x15.1.node.Text⟩ : T_api_Node), x15.1.raw, x15.1.in_⟩ : T_parse_open), u23) :: xs18) = ((⟨(⟨x15.1.node.Kind, x15.1.node.Name, x15.1.node.Attrs, a25, x15.1.node.Text⟩ : T_api_Node), x15.1.raw, x15.1.in_⟩ : T_parse_open) :: x15.2) := by rw [List.map_cons, hx19]
      have zs30 : zkR (((⟨(⟨x15.1.node.Kind, x15.1.node.Name, x15.1.node.Attrs, a25, x15.1.node.Text⟩ : T_api_Node), x15.1.raw, x15.1.in_⟩ : T_parse_open), u23) :: xs18) := zkR_cons.2 ⟨(fun h => absurd h hu23), zs21⟩
      have hle31 : List.length x12.2 = List.length ((⟨(⟨x15.1.node.Kind, x15.1.node.Name, x15.1.node.Attrs, a25, x15.1.node.Text⟩ : T_api_Node), x15.1.raw, x15.1.in_⟩ : T_parse_open) :: x15.2) := by rw [he16]; rfl
      try rw [hle31] at ok
      try rw [hle31]
      with_reducible repeat first | apply Exit.sr | apply Exit.br | apply Exit.jr
      have hwo : WO (mo 0 c_T_api_Node ([] : List T_api_Node) :: (i10, .cells [.I x1.1.node.Kind, .str x1.1.node.Name.URI, .str x1.1.node.Name.Local, .sl 3 (List.map c_T_api_Attr x1.1.node.Attrs) 0, .sl 6 (List.map c_T_api_Node x1.1.node.Kids) 0, .str x1.1.node.Text]) :: (q0, .cells [.msl 8 b0_0 0 (List.length ((⟨(⟨x15.1.node.Kind, x15.1.node.Name, x15.1.node.Attrs, a25, x15.1.node.Text⟩ : T_api_Node), x15.1.raw, x15.1.in_⟩ : T_parse_open) :: x15.2)), .I p0.nodes, .bool v28]) :: (b0_0, .cells (fl cK (List.reverse (((⟨(⟨x15.1.node.Kind, x15.1.node.Name, x15.1.node.Attrs, a25, x15.1.node.Text⟩ : T_api_Node), x15.1.raw, x15.1.in_⟩ : T_parse_open), u23) :: xs18)))) :: (0, .room) :: (hidR (((⟨(⟨x15.1.node.Kind, x15.1.node.Name, x15.1.node.Attrs, a25, x15.1.node.Text⟩ : T_api_Node), x15.1.raw, x15.1.in_⟩ : T_parse_open), u23) :: xs18) ++ O)) ((q0, .cells [.msl 8 b0_0 0 (List.length ((⟨(⟨x15.1.node.Kind, x15.1.node.Name, x15.1.node.Attrs, a25, x15.1.node.Text⟩ : T_api_Node), x15.1.raw, x15.1.in_⟩ : T_parse_open) :: x15.2)), .I p0.nodes, .bool v28]) :: (b0_0, .cells (fl cK (List.reverse (((⟨(⟨x15.1.node.Kind, x15.1.node.Name, x15.1.node.Attrs, a25, x15.1.node.Text⟩ : T_api_Node), x15.1.raw, x15.1.in_⟩ : T_parse_open), u23) :: xs18)))) :: (hidR (((⟨(⟨x15.1.node.Kind, x15.1.node.Name, x15.1.node.Attrs, a25, x15.1.node.Text⟩ : T_api_Node), x15.1.raw, x15.1.in_⟩ : T_parse_open), u23) :: xs18) ++ O)) := (.drop (.drop (.keep (.keep (.drop (.refl (hidR (((⟨(⟨x15.1.node.Kind, x15.1.node.Name, x15.1.node.Attrs, a25, x15.1.node.Text⟩ : T_api_Node), x15.1.raw, x15.1.in_⟩ : T_parse_open), u23) :: xs18) ++ O)))))))
      refine C_retN (fn := Tryz.f52) rfl .nil ?_
      exact ⟨_, _, (.refl _), (hwo.spec ok).2.2, _, F_some hF, rfl, b0_0, (((⟨(⟨x15.1.node.Kind, x15.1.node.Name, x15.1.node.Attrs, a25, x15.1.node.Text⟩ : T_api_Node), x15.1.raw, x15.1.in_⟩ : T_parse_open), u23) :: xs18), hb0_0, hx29, zs30, (hwo.spec ok).1, rfl⟩
  · refine S_stK (j := 3) (f0 := 4) (cs' := [.I x15.1.node.Kind, .str x15.1.node.Name.URI, .str x15.1.node.Name.Local, .sl 3 (List.map c_T_api_Attr x15.1.node.Attrs) 0, .msl 6 u23 0 (List.length x15.1.node.Kids + 1), .str x15.1.node.Text, .str x15.1.raw, .sl 2 (List.map c_T_scope_bind x15.1.in_.binds) 0]) ok rfl rfl rfl hb0_0 (by omega) rfl ty_sz_28 rfl rfl (fun ok => ?_)
    refine S_stZ (c := c_T_api_Node) (e := x15.1.node.Kids) (b := x1.1.node) (zs := [.I 0, .str nB, .str nB, .snil, .snil, .str nB]) (j := 5) ok rfl rfl rfl hu23 c_T_api_Node_len rfl rfl ty_sz_30 rfl (fun ok => ?_)
    obtain ⟨a32, ha32, hF⟩ := F_let hF
    rw [← ha32] at ok
    rw [← ha32]
    have hml : .msl 6 u23 0 (List.length x15.1.node.Kids + 1) = mslO 6 u23 a32 := by rw [mslO_pos hu23, ha32, List.length_append]; rfl
    try rw [hml] at ok
    try rw [hml]
    clear hml
    refine Sn (C_reg (mdl []) (Mp rfl (Mp rfl (S_nilc (v := .ptr _ _) rfl rfl (S_faP rfl ty_fd_63_2 ty_sz_4 (S_ldP (j := 2) ok rfl rfl rfl hq0 (p_one (v := .bool p0.done) ty_ag_4 ty_sz_4 rfl) (Mb rfl ?_)))))))
    refine S_twoJ 7 50 hF (fun J34 hb33 hF => ?_) (fun J34 hb33 hF => ?_) (fun v35 hF => ?_)
    · refine So rfl rfl hb33 (So rfl rfl hb33 (So rfl rfl hb33 (So rfl rfl hb33 (So rfl rfl hb33 (So rfl rfl hb33 (S_pickT (v := .bool _) rfl hb33 rfl (Sn ?_)))))))
      refine ⟨_, hF, .hd (.refl _) ?_⟩
      repeat first | with_reducible exact .refl _ | refine .add ?_ rfl | exact .refl _
    · refine Sx rfl rfl hb33 (Mp rfl (Sn (Sx rfl rfl hb33 (S_nilc (v := .ptr _ _) rfl rfl (Sn (Sx rfl rfl hb33 (S_faP rfl ty_fd_63_0 ty_sz_61 (Sn (Sx rfl rfl hb33 (S_ldP (j := 2) ok rfl rfl rfl hq0 (p_one (v := .msl 8 b0_0 0 (List.length x12.2)) ty_ag_61 ty_sz_61 rfl) (Sn (Sx rfl rfl hb33 (S_lenM (e := x12.2) rfl ty_sl_61 (Sn (Sx rfl rfl hb33 (S_bin rfl rfl (ev_eql ..) (Sn (S_pickF (v := .bool _) rfl hb33 rfl (Sn ?_)))))))))))))))))))
      refine ⟨_, hF, .hd (.refl _) ?_⟩
      repeat first | with_reducible exact .refl _ | refine .add ?_ rfl | exact .refl _
    · refine S_nilc (v := .ptr _ _) rfl rfl (S_faP rfl ty_fd_63_2 ty_sz_4 (S_st (j := 2) (cs' := [.msl 8 b0_0 0 (List.length x12.2), .I p0.nodes, .bool v35]) ok rfl rfl rfl hq0 rfl ty_sz_4 rfl rfl (fun ok => Sn ?_)))
      have hck : cK ((⟨(⟨x15.1.node.Kind, x15.1.node.Name, x15.1.node.Attrs, a32, x15.1.node.Text⟩ : T_api_Node), x15.1.raw, x15.1.in_⟩ : T_parse_open), u23) = [.I x15.1.node.Kind, .str x15.1.node.Name.URI, .str x15.1.node.Name.Local, .sl 3 (List.map c_T_api_Attr x15.1.node.Attrs) 0, mslO 6 u23 a32, .str x15.1.node.Text, .str x15.1.raw, .sl 2 (List.map c_T_scope_bind x15.1.in_.binds) 0] := rfl
      rw [← hck, ← fl_rev (c := cK)] at ok
      rw [← hck, ← fl_rev (c := cK)]
      clear hck
      have hx36 : List.map Prod.fst (((⟨(⟨x15.1.node.Kind, x15.1.node.Name, x15.1.node.Attrs, a32, x15.1.node.Text⟩ : T_api_Node), x15.1.raw, x15.1.in_⟩ : T_parse_open), u23) :: xs18) = ((⟨(⟨x15.1.node.Kind, x15.1.node.Name, x15.1.node.Attrs, a32, x15.1.node.Text⟩ : T_api_Node), x15.1.raw, x15.1.in_⟩ : T_parse_open) :: x15.2) := by rw [List.map_cons, hx19]
      have zs37 : zkR (((⟨(⟨x15.1.node.Kind, x15.1.node.Name, x15.1.node.Attrs, a32, x15.1.node.Text⟩ : T_api_Node), x15.1.raw, x15.1.in_⟩ : T_parse_open), u23) :: xs18) := zkR_cons.2 ⟨(fun h => absurd h hu23), zs21⟩
      have hle38 : List.length x12.2 = List.length ((⟨(⟨x15.1.node.Kind, x15.1.node.Name, x15.1.node.Attrs, a32, x15.1.node.Text⟩ : T_api_Node), x15.1.raw, x15.1.in_⟩ : T_parse_open) :: x15.2) := by rw [he16]; rfl
      try rw [hle38] at ok
      try rw [hle38]
      with_reducible repeat first | apply Exit.sr | apply Exit.br | apply Exit.jr
      have hwo : WO (mo 0 c_T_api_Node ([] : List T_api_Node) :: (i10, .cells [.I x1.1.node.Kind, .str x1.1.node.Name.URI, .str x1.1.node.Name.Local, .sl 3 (List.map c_T_api_Attr x1.1.node.Attrs) 0, .sl 6 (List.map c_T_api_Node x1.1.node.Kids) 0, .str x1.1.node.Text]) :: (q0, .cells [.msl 8 b0_0 0 (List.length ((⟨(⟨x15.1.node.Kind, x15.1.node.Name, x15.1.node.Attrs, a32, x15.1.node.Text⟩ : T_api_Node), x15.1.raw, x15.1.in_⟩ : T_parse_open) :: x15.2)), .I p0.nodes, .bool v35]) :: (b0_0, .cells (fl cK (List.reverse (((⟨(⟨x15.1.node.Kind, x15.1.node.Name, x15.1.node.Attrs, a32, x15.1.node.Text⟩ : T_api_Node), x15.1.raw, x15.1.in_⟩ : T_parse_open), u23) :: xs18)))) :: (0, .room) :: (hidR (((⟨(⟨x15.1.node.Kind, x15.1.node.Name, x15.1.node.Attrs, a32, x15.1.node.Text⟩ : T_api_Node), x15.1.raw, x15.1.in_⟩ : T_parse_open), u23) :: xs18) ++ O)) ((q0, .cells [.msl 8 b0_0 0 (List.length ((⟨(⟨x15.1.node.Kind, x15.1.node.Name, x15.1.node.Attrs, a32, x15.1.node.Text⟩ : T_api_Node), x15.1.raw, x15.1.in_⟩ : T_parse_open) :: x15.2)), .I p0.nodes, .bool v35]) :: (b0_0, .cells (fl cK (List.reverse (((⟨(⟨x15.1.node.Kind, x15.1.node.Name, x15.1.node.Attrs, a32, x15.1.node.Text⟩ : T_api_Node), x15.1.raw, x15.1.in_⟩ : T_parse_open), u23) :: xs18)))) :: (hidR (((⟨(⟨x15.1.node.Kind, x15.1.node.Name, x15.1.node.Attrs, a32, x15.1.node.Text⟩ : T_api_Node), x15.1.raw, x15.1.in_⟩ : T_parse_open), u23) :: xs18) ++ O)) := (.drop (.drop (.keep (.keep (.drop (.refl (hidR (((⟨(⟨x15.1.node.Kind, x15.1.node.Name, x15.1.node.Attrs, a32, x15.1.node.Text⟩ : T_api_Node), x15.1.raw, x15.1.in_⟩ : T_parse_open), u23) :: xs18) ++ O)))))))
      refine C_retN (fn := Tryz.f52) rfl .nil ?_
      exact ⟨_, _, (.refl _), (hwo.spec ok).2.2, _, F_some hF, rfl, b0_0, (((⟨(⟨x15.1.node.Kind, x15.1.node.Name, x15.1.node.Attrs, a32, x15.1.node.Text⟩ : T_api_Node), x15.1.raw, x15.1.in_⟩ : T_parse_open), u23) :: xs18), hb0_0, hx36, zs37, (hwo.spec ok).1, rfl⟩
theorem F_parse_reader_close_ok {β : Type} {f0 : T_parse_reader → Option β} {G : β → Prop} {R : D → Heap → Prop} {p0 : T_parse_reader} {q0 : Nat} {b0_0 : Nat} {x0 : List (T_parse_open × Nat)} (h : Heap) (O : List (Nat × AObj)) (hq0 : q0 ≠ 0) (hb0_0 : b0_0 ≠ 0) (hx0 : List.map Prod.fst x0 = p0.open_) (zk0 : zkR x0) (ok : OK h ((q0, .cells [.msl 8 b0_0 0 (List.length p0.open_), .I p0.nodes, .bool p0.done]) :: (b0_0, .cells (fl cK (List.reverse x0))) :: (hidR x0 ++ O))) (hF : OptP ((F_parse_reader_close p0).bind f0) G) (hk : ∀ r b0_0' x0', F_parse_reader_close p0 = some r → b0_0' ≠ 0 → List.map Prod.fst x0' = r.open_ → zkR x0' → OK h ((q0, .cells [.msl 8 b0_0' 0 (List.length r.open_), .I r.nodes, .bool r.done]) :: (b0_0', .cells (fl cK (List.reverse x0'))) :: (hidR x0' ++ O)) → OptP (f0 r) G → R (.tup []) (Hp h ((q0, .cells [.msl 8 b0_0' 0 (List.length r.open_), .I r.nodes, .bool r.done]) :: (b0_0', .cells (fl cK (List.reverse x0'))) :: (hidR x0' ++ O)))) : CallsA Tryz.prog 52 [.ptr q0 0] (Hp h ((q0, .cells [.msl 8 b0_0 0 (List.length p0.open_), .I p0.nodes, .bool p0.done]) :: (b0_0, .cells (fl cK (List.reverse x0))) :: (hidR x0 ++ O))) R := by
  obtain ⟨r0, hr, hF⟩ := F_bind hF
  refine (F_parse_reader_close_w (G := fun r => r = r0) p0 q0 b0_0 x0 h O hq0 hb0_0 hx0 zk0 ok ⟨r0, hr, rfl⟩).mono ?_
  rintro _ _ ⟨r, rfl, rfl, b0_0', x0', yy0, yy1, yy2, ok', rfl⟩
  exact hk _ _ _ hr yy0 yy1 yy2 ok' hF
theorem F_parse_reader_take_w (p0 : T_parse_reader) (p1 : TK) (q0 : Nat) (b0_0 : Nat) (x0 : List (T_parse_open × Nat)) {G : Int × T_parse_reader → Prop} (h : Heap) (O : List (Nat × AObj)) (hq0 : q0 ≠ 0) (hb0_0 : b0_0 ≠ 0) (hx0 : List.map Prod.fst x0 = p0.open_) (zk0 : zkR x0) (ok : OK h ((q0, .cells [.msl 8 b0_0 0 (List.length p0.open_), .I p0.nodes, .bool p0.done]) :: (b0_0, .cells (fl cK (List.reverse x0))) :: (hidR x0 ++ O))) (hF : OptP (F_parse_reader_take p0 p1) G) : CallsA Tryz.prog 24 [.ptr q0 0, .agg (cTK p1)] (Hp h ((q0, .cells [.msl 8 b0_0 0 (List.length p0.open_), .I p0.nodes, .bool p0.done]) :: (b0_0, .cells (fl cK (List.reverse x0))) :: (hidR x0 ++ O))) fun d h' => ∃ r, G r ∧ d = .I r.1 ∧ ∃ (b0_0' : Nat) (x0' : List (T_parse_open × Nat)), b0_0' ≠ 0 ∧ List.map Prod.fst x0' = r.2.open_ ∧ zkR x0' ∧ OK h ((q0, .cells [.msl 8 b0_0' 0 (List.length r.2.open_), .I r.2.nodes, .bool r.2.done]) :: (b0_0', .cells (fl cK (List.reverse x0'))) :: (hidR x0' ++ O)) ∧ h' = Hp h ((q0, .cells [.msl 8 b0_0' 0 (List.length r.2.open_), .I r.2.nodes, .bool r.2.done]) :: (b0_0', .cells (fl cK (List.reverse x0'))) :: (hidR x0' ++ O)) := by
  refine CallsA.ret (C_bodyO Tryz.func24 rfl en_24 Tryz.ntmps24 rfl ?_)
  rw [F_parse_reader_take] at hF
  refine CR (S_box0 rfl rfl rfl rfl (Ai rfl (Sn (CR (Ai rfl (Sn (C_seq (CR (S_faQ rfl ty_fd_66_0 ty_sz_3 rfl (S_ldQ rfl (p_one ty_ag_3 ty_sz_3 rfl) (Sn (WP_block (CR (S_bin rfl rfl (ev_eql ..) (Ab rfl (Sn ?_))))))))))))))))
  refine C_if (b := (p1.Kind == (7 : Int))) rfl hF (fun hb1 hF => ?_) (fun hb1 hF => ?_)
  · refine C_reg (mdl []) (Mp rfl (S_faQ rfl ty_fd_66_4 ty_sz_9 rfl (S_ldQ rfl (p_one ty_ag_9 ty_sz_9 rfl) (S_bld (v := .agg [.I 4, .str nB, .str nB, .snil, .snil, .str p1.Text]) (b_st ty_zc_30 ty_pl_30 rfl) (S_one 13 (v := .agg (c_T_api_Node (⟨(4 : Int), (⟨nB, nB⟩ : T_api_Name), ([] : List T_api_Attr), ([] : List T_api_Node), p1.Text⟩ : T_api_Node))) (Wd.toE (.aggC (.cons (.refl _) (.cons (.refl _) (.cons (.refl _) (.cons (.nil _) (.cons (.nil _) (.refl _))))))) (c_T_api_Node_eq _)) ?_)))))
    obtain ⟨hpe, ok⟩ := Hp_pull 1 ok rfl
    rw [hpe]; clear hpe
    obtain ⟨hpe, ok⟩ := Hp_pull 1 ok rfl
    rw [hpe]; clear hpe
    refine S_call (F_parse_reader_put_ok (p0 := p0) (q0 := q0) (b0_0 := b0_0) (x0 := x0) h O hq0 hb0_0 hx0 zk0 ok hF fun x2 u3 x4 _ hu3 hxu3 zku3 ok hF => (Ai rfl (Sn (C_seq (CR (Mi rfl (S_bin rfl rfl (ev_eql ..) (Mb rfl ?_)))))))) (.refl _)
    refine S_twoJ 6 73 hF (fun J6 hb5 hF => ?_) (fun J6 hb5 hF => ?_) (fun v7 hF => ?_)
    · refine Sx rfl rfl hb5 (Mp rfl (Sn (Sx rfl rfl hb5 (S_nilc (v := .ptr _ _) rfl rfl (Sn (Sx rfl rfl hb5 (S_faP rfl ty_fd_63_1 ty_sz_3 (Sn (Sx rfl rfl hb5 (S_ldP (j := 0) ok rfl rfl rfl hq0 (p_one (v := .I x2.2.nodes) ty_ag_3 ty_sz_3 rfl) (Sn (Sx rfl rfl hb5 (S_bin rfl rfl (ev_gtr ..) (Sn (S_pickT (v := .bool _) rfl hb5 rfl (Sn ?_))))))))))))))))
      refine ⟨_, hF, .hd (.refl _) ?_⟩
      repeat first | with_reducible exact .refl _ | refine .add ?_ rfl | exact .refl _
    · refine So rfl rfl hb5 (So rfl rfl hb5 (So rfl rfl hb5 (So rfl rfl hb5 (So rfl rfl hb5 (S_pickF (v := .bool _) rfl hb5 rfl (Sn ?_))))))
      refine ⟨_, hF, .hd (.refl _) ?_⟩
      repeat first | with_reducible exact .refl _ | refine .add ?_ rfl | exact .refl _
    · refine Sn ?_
      refine C_if (b := v7) rfl hF (fun hb8 hF => ?_) (fun hb8 hF => ?_)
      · refine CR (Ai rfl (Sn (WP_ret ?_)))
        with_reducible repeat first | apply Exit.sr | apply Exit.br | apply Exit.jr
        refine C_ret (fn := Tryz.f24) rfl (.tmp (v := .I 5) rfl .nil) ?_
        exact ⟨_, _, (.refl _), .refl _, _, F_some hF, rfl, u3, x4, hu3, hxu3, zku3, ok, rfl⟩
      · refine WP_skip (CR (Mi rfl (Ai rfl (Sn (WP_ret ?_)))))
        with_reducible repeat first | apply Exit.sr | apply Exit.br | apply Exit.jr
        refine C_ret (fn := Tryz.f24) rfl (.tmp (v := .I x2.1) rfl .nil) ?_
        exact ⟨_, _, (.refl _), .refl _, _, F_some hF, rfl, u3, x4, hu3, hxu3, zku3, ok, rfl⟩
  · refine CR (S_bin rfl rfl (ev_eql ..) (Ab rfl (Sn ?_)))
    refine C_if (b := (p1.Kind == (8 : Int))) rfl hF (fun hb9 hF => ?_) (fun hb9 hF => ?_)
    · refine C_reg (mdl []) (Mp rfl (S_faQ rfl ty_fd_66_2 ty_sz_9 rfl (S_ldQ rfl (p_one ty_ag_9 ty_sz_9 rfl) (S_bld (v := .agg (c_T_api_Name (⟨nB, p1.Name⟩ : T_api_Name))) (b_st ty_zc_26 ty_pl_26 rfl) (S_faQ rfl ty_fd_66_4 ty_sz_9 rfl (S_ldQ rfl (p_one ty_ag_9 ty_sz_9 rfl) (S_bld (v := .agg [.I 5, .str (⟨nB, p1.Name⟩ : T_api_Name).URI, .str (⟨nB, p1.Name⟩ : T_api_Name).Local, .snil, .snil, .str p1.Text]) (b_st ty_zc_30 ty_pl_30 rfl) (S_one 23 (v := .agg (c_T_api_Node (⟨(5 : Int), (⟨nB, p1.Name⟩ : T_api_Name), ([] : List T_api_Attr), ([] : List T_api_Node), p1.Text⟩ : T_api_Node))) (Wd.toE (.aggC (.cons (.refl _) (.cons (.refl _) (.cons (.refl _) (.cons (.nil _) (.cons (.nil _) (.refl _))))))) (c_T_api_Node_eq _)) ?_))))))))
      obtain ⟨hpe, ok⟩ := Hp_pull 1 ok rfl
      rw [hpe]; clear hpe
      obtain ⟨hpe, ok⟩ := Hp_pull 1 ok rfl
      rw [hpe]; clear hpe
      refine S_call (F_parse_reader_put_ok (p0 := p0) (q0 := q0) (b0_0 := b0_0) (x0 := x0) h O hq0 hb0_0 hx0 zk0 ok hF fun x10 u11 x12 _ hu11 hxu11 zku11 ok hF => (Ai rfl (Sn (C_seq (CR (Mi rfl (S_bin rfl rfl (ev_eql ..) (Mb rfl ?_)))))))) (.refl _)
      refine S_twoJ 6 73 hF (fun J14 hb13 hF => ?_) (fun J14 hb13 hF => ?_) (fun v15 hF => ?_)
      · refine Sx rfl rfl hb13 (Mp rfl (Sn (Sx rfl rfl hb13 (S_nilc (v := .ptr _ _) rfl rfl (Sn (Sx rfl rfl hb13 (S_faP rfl ty_fd_63_1 ty_sz_3 (Sn (Sx rfl rfl hb13 (S_ldP (j := 0) ok rfl rfl rfl hq0 (p_one (v := .I x10.2.nodes) ty_ag_3 ty_sz_3 rfl) (Sn (Sx rfl rfl hb13 (S_bin rfl rfl (ev_gtr ..) (Sn (S_pickT (v := .bool _) rfl hb13 rfl (Sn ?_))))))))))))))))
        refine ⟨_, hF, .hd (.refl _) ?_⟩
        repeat first | with_reducible exact .refl _ | refine .add ?_ rfl | exact .refl _
      · refine So rfl rfl hb13 (So rfl rfl hb13 (So rfl rfl hb13 (So rfl rfl hb13 (So rfl rfl hb13 (S_pickF (v := .bool _) rfl hb13 rfl (Sn ?_))))))
        refine ⟨_, hF, .hd (.refl _) ?_⟩
        repeat first | with_reducible exact .refl _ | refine .add ?_ rfl | exact .refl _
      · refine Sn ?_
        refine C_if (b := v15) rfl hF (fun hb16 hF => ?_) (fun hb16 hF => ?_)
        · refine CR (Ai rfl (Sn (WP_ret ?_)))
          with_reducible repeat first | apply Exit.sr | apply Exit.br | apply Exit.jr
          refine C_ret (fn := Tryz.f24) rfl (.tmp (v := .I 5) rfl .nil) ?_
          exact ⟨_, _, (.refl _), .refl _, _, F_some hF, rfl, u11, x12, hu11, hxu11, zku11, ok, rfl⟩
        · refine WP_skip (CR (Mi rfl (Ai rfl (Sn (WP_ret ?_)))))
          with_reducible repeat first | apply Exit.sr | apply Exit.br | apply Exit.jr
          refine C_ret (fn := Tryz.f24) rfl (.tmp (v := .I x10.1) rfl .nil) ?_
          exact ⟨_, _, (.refl _), .refl _, _, F_some hF, rfl, u11, x12, hu11, hxu11, zku11, ok, rfl⟩
    · refine C_seq (CR (S_bin rfl rfl (ev_eql ..) (Ab rfl (Sn ?_))))
      refine C_if (b := (p1.Kind == (5 : Int))) rfl hF (fun hb17 hF => ?_) (fun hb17 hF => ?_)
      · refine WP_skip (C_tt rfl hb17 (C_reg (mdl []) (Mp rfl (S_ldQ rfl (p_agg (vs := cTK p1) ty_ag_66 ty_sz_66 rfl rfl) ?_))))
        obtain ⟨hpe, ok⟩ := Hp_pull 1 ok rfl
        rw [hpe]; clear hpe
        obtain ⟨hpe, ok⟩ := Hp_pull 1 ok rfl
        rw [hpe]; clear hpe
        refine S_call (F_parse_reader_text_ok (p0 := p0) (q0 := q0) (b0_0 := b0_0) (x0 := x0) h O hq0 hb0_0 hx0 zk0 ok hF fun x18 u19 x20 _ hu19 hxu19 zku19 ok hF => (Ai rfl (Sn (C_seq (CR (Mi rfl (S_bin rfl rfl (ev_eql ..) (Mb rfl ?_)))))))) (.refl _)
        refine S_twoJ 6 73 hF (fun J22 hb21 hF => ?_) (fun J22 hb21 hF => ?_) (fun v23 hF => ?_)
        · refine Sx rfl rfl hb21 (Mp rfl (Sn (Sx rfl rfl hb21 (S_nilc (v := .ptr _ _) rfl rfl (Sn (Sx rfl rfl hb21 (S_faP rfl ty_fd_63_1 ty_sz_3 (Sn (Sx rfl rfl hb21 (S_ldP (j := 0) ok rfl rfl rfl hq0 (p_one (v := .I x18.2.nodes) ty_ag_3 ty_sz_3 rfl) (Sn (Sx rfl rfl hb21 (S_bin rfl rfl (ev_gtr ..) (Sn (S_pickT (v := .bool _) rfl hb21 rfl (Sn ?_))))))))))))))))
          refine ⟨_, hF, .hd (.refl _) ?_⟩
          repeat first | with_reducible exact .refl _ | refine .add ?_ rfl | exact .refl _
        · refine So rfl rfl hb21 (So rfl rfl hb21 (So rfl rfl hb21 (So rfl rfl hb21 (So rfl rfl hb21 (S_pickF (v := .bool _) rfl hb21 rfl (Sn ?_))))))
          refine ⟨_, hF, .hd (.refl _) ?_⟩
          repeat first | with_reducible exact .refl _ | refine .add ?_ rfl | exact .refl _
        · refine Sn ?_
          refine C_if (b := v23) rfl hF (fun hb24 hF => ?_) (fun hb24 hF => ?_)
          · refine CR (Ai rfl (Sn (WP_ret ?_)))
            with_reducible repeat first | apply Exit.sr | apply Exit.br | apply Exit.jr
            refine C_ret (fn := Tryz.f24) rfl (.tmp (v := .I 5) rfl .nil) ?_
            exact ⟨_, _, (.refl _), .refl _, _, F_some hF, rfl, u19, x20, hu19, hxu19, zku19, ok, rfl⟩
          · refine WP_skip (CR (Mi rfl (Ai rfl (Sn (WP_ret ?_)))))
            with_reducible repeat first | apply Exit.sr | apply Exit.br | apply Exit.jr
            refine C_ret (fn := Tryz.f24) rfl (.tmp (v := .I x18.1) rfl .nil) ?_
            exact ⟨_, _, (.refl _), .refl _, _, F_some hF, rfl, u19, x20, hu19, hxu19, zku19, ok, rfl⟩
      · refine C_reg (mdl []) (S_bin rfl rfl (ev_eql ..) (Ab rfl (Sn ?_)))
        refine C_if (b := (p1.Kind == (6 : Int))) rfl hF (fun hb25 hF => ?_) (fun hb25 hF => ?_)
        · refine C_reg (mdl []) (Mp rfl (S_ldQ rfl (p_agg (vs := cTK p1) ty_ag_66 ty_sz_66 rfl rfl) ?_))
          obtain ⟨hpe, ok⟩ := Hp_pull 1 ok rfl
          rw [hpe]; clear hpe
          obtain ⟨hpe, ok⟩ := Hp_pull 1 ok rfl
          rw [hpe]; clear hpe
          refine S_call (F_parse_reader_text_ok (p0 := p0) (q0 := q0) (b0_0 := b0_0) (x0 := x0) h O hq0 hb0_0 hx0 zk0 ok hF fun x26 u27 x28 _ hu27 hxu27 zku27 ok hF => (Ai rfl (Sn (C_seq (CR (Mi rfl (S_bin rfl rfl (ev_eql ..) (Mb rfl ?_)))))))) (.refl _)
          refine S_twoJ 6 73 hF (fun J30 hb29 hF => ?_) (fun J30 hb29 hF => ?_) (fun v31 hF => ?_)
          · refine Sx rfl rfl hb29 (Mp rfl (Sn (Sx rfl rfl hb29 (S_nilc (v := .ptr _ _) rfl rfl (Sn (Sx rfl rfl hb29 (S_faP rfl ty_fd_63_1 ty_sz_3 (Sn (Sx rfl rfl hb29 (S_ldP (j := 0) ok rfl rfl rfl hq0 (p_one (v := .I x26.2.nodes) ty_ag_3 ty_sz_3 rfl) (Sn (Sx rfl rfl hb29 (S_bin rfl rfl (ev_gtr ..) (Sn (S_pickT (v := .bool _) rfl hb29 rfl (Sn ?_))))))))))))))))
            refine ⟨_, hF, .hd (.refl _) ?_⟩
            repeat first | with_reducible exact .refl _ | refine .add ?_ rfl | exact .refl _
          · refine So rfl rfl hb29 (So rfl rfl hb29 (So rfl rfl hb29 (So rfl rfl hb29 (So rfl rfl hb29 (S_pickF (v := .bool _) rfl hb29 rfl (Sn ?_))))))
            refine ⟨_, hF, .hd (.refl _) ?_⟩
            repeat first | with_reducible exact .refl _ | refine .add ?_ rfl | exact .refl _
          · refine Sn ?_
            refine C_if (b := v31) rfl hF (fun hb32 hF => ?_) (fun hb32 hF => ?_)
            · refine CR (Ai rfl (Sn (WP_ret ?_)))
              with_reducible repeat first | apply Exit.sr | apply Exit.br | apply Exit.jr
              refine C_ret (fn := Tryz.f24) rfl (.tmp (v := .I 5) rfl .nil) ?_
              exact ⟨_, _, (.refl _), .refl _, _, F_some hF, rfl, u27, x28, hu27, hxu27, zku27, ok, rfl⟩
            · refine WP_skip (CR (Mi rfl (Ai rfl (Sn (WP_ret ?_)))))
              with_reducible repeat first | apply Exit.sr | apply Exit.br | apply Exit.jr
              refine C_ret (fn := Tryz.f24) rfl (.tmp (v := .I x26.1) rfl .nil) ?_
              exact ⟨_, _, (.refl _), .refl _, _, F_some hF, rfl, u27, x28, hu27, hxu27, zku27, ok, rfl⟩
        · refine CR (S_bin rfl rfl (ev_eql ..) (Ab rfl (Sn ?_)))
          refine C_if (b := (p1.Kind == (2 : Int))) rfl hF (fun hb33 hF => ?_) (fun hb33 hF => ?_)
          · refine C_reg (mdl []) (Mp rfl (S_ldQ rfl (p_agg (vs := cTK p1) ty_ag_66 ty_sz_66 rfl rfl) ?_))
            obtain ⟨hpe, ok⟩ := Hp_pull 1 ok rfl
            rw [hpe]; clear hpe
            obtain ⟨hpe, ok⟩ := Hp_pull 1 ok rfl
            rw [hpe]; clear hpe
            refine S_call (F_parse_reader_begin_ok (p0 := p0) (q0 := q0) (b0_0 := b0_0) (x0 := x0) h O hq0 hb0_0 hx0 zk0 ok hF fun x34 u35 x36 _ hu35 hxu35 zku35 ok hF => (Ai rfl (Sn (C_seq (CR (Mi rfl (S_bin rfl rfl (ev_eql ..) (Mb rfl ?_)))))))) (.refl _)
            refine S_twoJ 6 73 hF (fun J38 hb37 hF => ?_) (fun J38 hb37 hF => ?_) (fun v39 hF => ?_)
            · refine Sx rfl rfl hb37 (Mp rfl (Sn (Sx rfl rfl hb37 (S_nilc (v := .ptr _ _) rfl rfl (Sn (Sx rfl rfl hb37 (S_faP rfl ty_fd_63_1 ty_sz_3 (Sn (Sx rfl rfl hb37 (S_ldP (j := 0) ok rfl rfl rfl hq0 (p_one (v := .I x34.2.nodes) ty_ag_3 ty_sz_3 rfl) (Sn (Sx rfl rfl hb37 (S_bin rfl rfl (ev_gtr ..) (Sn (S_pickT (v := .bool _) rfl hb37 rfl (Sn ?_))))))))))))))))
              refine ⟨_, hF, .hd (.refl _) ?_⟩
              repeat first | with_reducible exact .refl _ | refine .add ?_ rfl | exact .refl _
            · refine So rfl rfl hb37 (So rfl rfl hb37 (So rfl rfl hb37 (So rfl rfl hb37 (So rfl rfl hb37 (S_pickF (v := .bool _) rfl hb37 rfl (Sn ?_))))))
              refine ⟨_, hF, .hd (.refl _) ?_⟩
              repeat first | with_reducible exact .refl _ | refine .add ?_ rfl | exact .refl _
            · refine Sn ?_
              refine C_if (b := v39) rfl hF (fun hb40 hF => ?_) (fun hb40 hF => ?_)
              · refine CR (Ai rfl (Sn (WP_ret ?_)))
                with_reducible repeat first | apply Exit.sr | apply Exit.br | apply Exit.jr
                refine C_ret (fn := Tryz.f24) rfl (.tmp (v := .I 5) rfl .nil) ?_
                exact ⟨_, _, (.refl _), .refl _, _, F_some hF, rfl, u35, x36, hu35, hxu35, zku35, ok, rfl⟩
              · refine WP_skip (CR (Mi rfl (Ai rfl (Sn (WP_ret ?_)))))
                with_reducible repeat first | apply Exit.sr | apply Exit.br | apply Exit.jr
                refine C_ret (fn := Tryz.f24) rfl (.tmp (v := .I x34.1) rfl .nil) ?_
                exact ⟨_, _, (.refl _), .refl _, _, F_some hF, rfl, u35, x36, hu35, hxu35, zku35, ok, rfl⟩
          · refine CR (S_bin rfl rfl (ev_eql ..) (Ab rfl (Sn ?_)))
            refine C_if (b := (p1.Kind == (4 : Int))) rfl hF (fun hb41 hF => ?_) (fun hb41 hF => ?_)
            · refine CR (Mp rfl (S_ldQ rfl (p_agg (vs := cTK p1) ty_ag_66 ty_sz_66 rfl rfl) ?_))
              obtain ⟨hpe, ok⟩ := Hp_pull 1 ok rfl
              rw [hpe]; clear hpe
              obtain ⟨hpe, ok⟩ := Hp_pull 1 ok rfl
              rw [hpe]; clear hpe
              refine S_call (F_parse_reader_begin_ok (p0 := p0) (q0 := q0) (b0_0 := b0_0) (x0 := x0) h O hq0 hb0_0 hx0 zk0 ok hF fun x42 u43 x44 _ hu43 hxu43 zku43 ok hF => (Ai rfl (Sn (CR (Mi rfl (S_bin rfl rfl (ev_eql ..) (Sn ?_))))))) (.refl _)
              refine C_if (b := (x42.1 == (0 : Int))) rfl hF (fun hb45 hF => ?_) (fun hb45 hF => ?_)
              · refine C_reg (mdl []) (Mp rfl ?_)
                obtain ⟨hpe, ok⟩ := Hp_pull 1 ok rfl
                rw [hpe]; clear hpe
                obtain ⟨hpe, ok⟩ := Hp_pull 1 ok rfl
                rw [hpe]; clear hpe
                refine S_call (F_parse_reader_close_ok (p0 := x42.2) (q0 := q0) (b0_0 := u43) (x0 := x44) h O hq0 hu43 hxu43 zku43 ok hF fun x46 u47 x48 _ hu47 hxu47 zku47 ok hF => (Sn (C_seq (CR (Mi rfl (S_bin rfl rfl (ev_eql ..) (Mb rfl (Sx rfl rfl hb45 (Mp rfl (Sn (Sx rfl rfl hb45 (S_nilc (v := .ptr _ _) rfl rfl (Sn (Sx rfl rfl hb45 (S_faP rfl ty_fd_63_1 ty_sz_3 (Sn (Sx rfl rfl hb45 (S_ldP (j := 0) ok rfl rfl rfl hq0 (p_one (v := .I x46.nodes) ty_ag_3 ty_sz_3 rfl) (Sn (Sx rfl rfl hb45 (S_bin rfl rfl (ev_gtr ..) (Sn (S_pickT (v := .bool _) rfl hb45 rfl (Sn ?_)))))))))))))))))))))))) (.refl _)
                refine C_if (b := (decide ((2000 : Int) < x46.nodes))) rfl hF (fun hb49 hF => ?_) (fun hb49 hF => ?_)
                · refine CR (Ai rfl (Sn (WP_ret ?_)))
                  with_reducible repeat first | apply Exit.sr | apply Exit.br | apply Exit.jr
                  refine C_ret (fn := Tryz.f24) rfl (.tmp (v := .I 5) rfl .nil) ?_
                  exact ⟨_, _, (.refl _), .refl _, _, F_some hF, rfl, u47, x48, hu47, hxu47, zku47, ok, rfl⟩
                · refine WP_skip (CR (Mi rfl (Ai rfl (Sn (WP_ret ?_)))))
                  with_reducible repeat first | apply Exit.sr | apply Exit.br | apply Exit.jr
                  refine C_ret (fn := Tryz.f24) rfl (.tmp (v := .I x42.1) rfl .nil) ?_
                  exact ⟨_, _, (.refl _), .refl _, _, F_some hF, rfl, u47, x48, hu47, hxu47, zku47, ok, rfl⟩
              · refine WP_skip (C_seq (CR (Mi rfl (S_bin rfl rfl (ev_eql ..) (Mb rfl (So rfl rfl hb45 (So rfl rfl hb45 (So rfl rfl hb45 (So rfl rfl hb45 (So rfl rfl hb45 (S_pickF (v := .bool _) rfl hb45 rfl (Sn (C_ff rfl rfl (WP_skip (CR (Mi rfl (Ai rfl (Sn (WP_ret ?_)))))))))))))))))))
                with_reducible repeat first | apply Exit.sr | apply Exit.br | apply Exit.jr
                refine C_ret (fn := Tryz.f24) rfl (.tmp (v := .I x42.1) rfl .nil) ?_
                exact ⟨_, _, (.refl _), .refl _, _, F_some hF, rfl, u43, x44, hu43, hxu43, zku43, ok, rfl⟩
            · refine CR (S_bin rfl rfl (ev_eql ..) (Ab rfl (Sn ?_)))
              refine C_if (b := (p1.Kind == (3 : Int))) rfl hF (fun hb50 hF => ?_) (fun hb50 hF => ?_)
              · refine C_seq (C_seq ?_)
                refine C_plan (mdl [(60, 3)]) [0, 1, 2, 3, 4, 5, 6, 7, 12, 13, 8, 9, 10, 11, 14, 15] [_, _, _, _, _, _, _, _, _, _, _, _, _, _, _, _] (by kernel_rfl) rfl rfl (by kernel_rfl) ?_
                refine Mp rfl (S_nilc (v := .ptr _ _) rfl rfl (S_faP rfl ty_fd_63_0 ty_sz_61 (S_ldP (j := 0) ok rfl rfl rfl hq0 (p_one (v := .msl 8 b0_0 0 (List.length p0.open_)) ty_ag_61 ty_sz_61 rfl) (S_lenM (e := p0.open_) rfl ty_sl_61 (S_bin rfl rfl (ev_eql ..) (Mb rfl ?_))))))
                refine S_if (b := ((p0.open_.length : Int) == (1 : Int))) hF (fun hb51 hF => ?_) (fun hb52 hF => ?_)
                · refine So rfl rfl hb51 (So rfl rfl hb51 (So rfl rfl hb51 (So rfl rfl hb51 (So rfl rfl hb51 (So rfl rfl hb51 (So rfl rfl hb51 (So rfl rfl hb51 (S_pickT (v := .bool _) rfl hb51 rfl (Sn (C_tt rfl rfl (CR (Ai rfl (Sn (WP_ret ?_))))))))))))))
                  with_reducible repeat first | apply Exit.sr | apply Exit.br | apply Exit.jr
                  refine C_ret (fn := Tryz.f24) rfl (.tmp (v := .I 26) rfl .nil) ?_
                  exact ⟨_, _, (.refl _), .refl _, _, F_some hF, rfl, b0_0, x0, hb0_0, hx0, zk0, ok, rfl⟩
                · refine Sx rfl rfl hb52 (Mp rfl (Sn (Sx rfl rfl hb52 (S_faQ rfl ty_fd_66_2 ty_sz_9 rfl (Sn (Sx rfl rfl hb52 (S_ldQ rfl (p_one ty_ag_9 ty_sz_9 rfl) (Sn (Sx rfl rfl hb52 (S_call (top_ok (e := p0.open_) (j := 0) ok rfl hq0 hF fun x53 he54 hF => (Sn ?_)) (.cons (.refl _) .nil)))))))))))
                  obtain ⟨t55, xs56, rfl, hx57⟩ := stk_open hx0 he54
                  have zt58 := (zkR_cons.1 zk0).1
                  have zs59 := (zkR_cons.1 zk0).2
                  have hp60 := fl_len cK_len hx57
                  have hck : cK (x53.1, t55) = [.I x53.1.node.Kind, .str x53.1.node.Name.URI, .str x53.1.node.Name.Local, .sl 3 (List.map c_T_api_Attr x53.1.node.Attrs) 0, mslO 6 t55 x53.1.node.Kids, .str x53.1.node.Text, .str x53.1.raw, .sl 2 (List.map c_T_scope_bind x53.1.in_.binds) 0] := rfl
                  rw [fl_rev, hidR_cons, List.cons_append, hck] at ok
                  rw [fl_rev, hidR_cons, List.cons_append, hck]
                  clear hck
                  refine Sx rfl rfl hb52 (S_nilc (v := .ptr _ _) rfl rfl (Sn (Sx rfl rfl hb52 (S_faP rfl ty_fd_60_1 ty_sz_9 (Sn (Sx rfl rfl hb52 ?_))))))
                  refine S_ldK (j := 1) (f0 := 6) ok rfl rfl rfl hb0_0 (by omega) (p_one (v := .str x53.1.raw) ty_ag_9 ty_sz_9 rfl) ?_
                  refine Sn (Sx rfl rfl hb52 (S_bin rfl rfl e_sneq (Sn (S_pickF (v := .bool _) rfl hb52 rfl (Sn ?_)))))
                  refine C_if (b := (!(x53.1.raw == p1.Name))) rfl hF (fun hb61 hF => ?_) (fun hb61 hF => ?_)
                  · refine CR (Ai rfl (Sn (WP_ret ?_)))
                    have hck : cK (x53.1, t55) = [.I x53.1.node.Kind, .str x53.1.node.Name.URI, .str x53.1.node.Name.Local, .sl 3 (List.map c_T_api_Attr x53.1.node.Attrs) 0, mslO 6 t55 x53.1.node.Kids, .str x53.1.node.Text, .str x53.1.raw, .sl 2 (List.map c_T_scope_bind x53.1.in_.binds) 0] := rfl
                    rw [← hck, ← fl_rev (c := cK)] at ok
                    rw [← hck, ← fl_rev (c := cK)]
                    clear hck
                    have hx62 : List.map Prod.fst ((x53.1, t55) :: xs56) = p0.open_ := by rw [List.map_cons, hx57, he54]
                    have zs63 : zkR ((x53.1, t55) :: xs56) := zkR_cons.2 ⟨zt58, zs59⟩
                    with_reducible repeat first | apply Exit.sr | apply Exit.br | apply Exit.jr
                    refine C_ret (fn := Tryz.f24) rfl (.tmp (v := .I 26) rfl .nil) ?_
                    exact ⟨_, _, (.refl _), .refl _, _, F_some hF, rfl, b0_0, ((x53.1, t55) :: xs56), hb0_0, hx62, zs63, ok, rfl⟩
                  · refine WP_skip (C_reg (mdl []) (Mp rfl ?_))
                    have hck : cK (x53.1, t55) = [.I x53.1.node.Kind, .str x53.1.node.Name.URI, .str x53.1.node.Name.Local, .sl 3 (List.map c_T_api_Attr x53.1.node.Attrs) 0, mslO 6 t55 x53.1.node.Kids, .str x53.1.node.Text, .str x53.1.raw, .sl 2 (List.map c_T_scope_bind x53.1.in_.binds) 0] := rfl
                    rw [← hck, ← fl_rev (c := cK)] at ok
                    rw [← hck, ← fl_rev (c := cK)]
                    clear hck
                    have hx64 : List.map Prod.fst ((x53.1, t55) :: xs56) = p0.open_ := by rw [List.map_cons, hx57, he54]
                    have zs65 : zkR ((x53.1, t55) :: xs56) := zkR_cons.2 ⟨zt58, zs59⟩
                    obtain ⟨hpe, ok⟩ := Hp_pull 1 ok rfl
                    rw [hpe]; clear hpe
                    obtain ⟨hpe, ok⟩ := Hp_pull 1 ok rfl
                    rw [hpe]; clear hpe
                    refine S_call (F_parse_reader_close_ok (p0 := p0) (q0 := q0) (b0_0 := b0_0) (x0 := ((x53.1, t55) :: xs56)) h O hq0 hb0_0 hx64 zs65 ok hF fun x66 u67 x68 _ hu67 hxu67 zku67 ok hF => (Sn (C_seq (CR (Mi rfl (S_bin rfl rfl (ev_eql ..) (Mb rfl ?_))))))) (.refl _)
                    refine S_twoJ 6 73 hF (fun J70 hb69 hF => ?_) (fun J70 hb69 hF => ?_) (fun v71 hF => ?_)
                    · refine Sx rfl rfl hb69 (Mp rfl (Sn (Sx rfl rfl hb69 (S_nilc (v := .ptr _ _) rfl rfl (Sn (Sx rfl rfl hb69 (S_faP rfl ty_fd_63_1 ty_sz_3 (Sn (Sx rfl rfl hb69 (S_ldP (j := 0) ok rfl rfl rfl hq0 (p_one (v := .I x66.nodes) ty_ag_3 ty_sz_3 rfl) (Sn (Sx rfl rfl hb69 (S_bin rfl rfl (ev_gtr ..) (Sn (S_pickT (v := .bool _) rfl hb69 rfl (Sn ?_))))))))))))))))
                      refine ⟨_, hF, .hd (.refl _) ?_⟩
                      repeat first | with_reducible exact .refl _ | refine .add ?_ rfl | exact .refl _
                    · refine So rfl rfl hb69 (So rfl rfl hb69 (So rfl rfl hb69 (So rfl rfl hb69 (So rfl rfl hb69 (S_pickF (v := .bool _) rfl hb69 rfl (Sn ?_))))))
                      refine ⟨_, hF, .hd (.refl _) ?_⟩
                      repeat first | with_reducible exact .refl _ | refine .add ?_ rfl | exact .refl _
                    · refine Sn ?_
                      refine C_if (b := v71) rfl hF (fun hb72 hF => ?_) (fun hb72 hF => ?_)
                      · refine CR (Ai rfl (Sn (WP_ret ?_)))
                        with_reducible repeat first | apply Exit.sr | apply Exit.br | apply Exit.jr
                        refine C_ret (fn := Tryz.f24) rfl (.tmp (v := .I 5) rfl .nil) ?_
                        exact ⟨_, _, (.refl _), .refl _, _, F_some hF, rfl, u67, x68, hu67, hxu67, zku67, ok, rfl⟩
                      · refine WP_skip (CR (Mi rfl (Ai rfl (Sn (WP_ret ?_)))))
                        with_reducible repeat first | apply Exit.sr | apply Exit.br | apply Exit.jr
                        refine C_ret (fn := Tryz.f24) rfl (.tmp (v := .I 0) rfl .nil) ?_
                        exact ⟨_, _, (.refl _), .refl _, _, F_some hF, rfl, u67, x68, hu67, hxu67, zku67, ok, rfl⟩
              · refine WP_skip (C_seq (CR (Mi rfl (S_bin rfl rfl (ev_eql ..) (Mb rfl ?_)))))
                refine S_twoJ 6 73 hF (fun J74 hb73 hF => ?_) (fun J74 hb73 hF => ?_) (fun v75 hF => ?_)
                · refine Sx rfl rfl hb73 (Mp rfl (Sn (Sx rfl rfl hb73 (S_nilc (v := .ptr _ _) rfl rfl (Sn (Sx rfl rfl hb73 (S_faP rfl ty_fd_63_1 ty_sz_3 (Sn (Sx rfl rfl hb73 (S_ldP (j := 0) ok rfl rfl rfl hq0 (p_one (v := .I p0.nodes) ty_ag_3 ty_sz_3 rfl) (Sn (Sx rfl rfl hb73 (S_bin rfl rfl (ev_gtr ..) (Sn (S_pickT (v := .bool _) rfl hb73 rfl (Sn ?_))))))))))))))))
                  refine ⟨_, hF, .hd (.refl _) ?_⟩
                  repeat first | with_reducible exact .refl _ | refine .add ?_ rfl | exact .refl _
                · refine So rfl rfl hb73 (So rfl rfl hb73 (So rfl rfl hb73 (So rfl rfl hb73 (So rfl rfl hb73 (S_pickF (v := .bool _) rfl hb73 rfl (Sn ?_))))))
                  refine ⟨_, hF, .hd (.refl _) ?_⟩
                  repeat first | with_reducible exact .refl _ | refine .add ?_ rfl | exact .refl _
                · refine Sn ?_
                  refine C_if (b := v75) rfl hF (fun hb76 hF => ?_) (fun hb76 hF => ?_)
                  · refine CR (Ai rfl (Sn (WP_ret ?_)))
                    with_reducible repeat first | apply Exit.sr | apply Exit.br | apply Exit.jr
                    refine C_ret (fn := Tryz.f24) rfl (.tmp (v := .I 5) rfl .nil) ?_
                    exact ⟨_, _, (.refl _), .refl _, _, F_some hF, rfl, b0_0, x0, hb0_0, hx0, zk0, ok, rfl⟩
                  · refine WP_skip (CR (Mi rfl (Ai rfl (Sn (WP_ret ?_)))))
                    with_reducible repeat first | apply Exit.sr | apply Exit.br | apply Exit.jr
                    refine C_ret (fn := Tryz.f24) rfl (.tmp (v := .I 0) rfl .nil) ?_
                    exact ⟨_, _, (.refl _), .refl _, _, F_some hF, rfl, b0_0, x0, hb0_0, hx0, zk0, ok, rfl⟩
theorem F_parse_reader_take_ok {β : Type} {f0 : Int × T_parse_reader → Option β} {G : β → Prop} {R : D → Heap → Prop} {p0 : T_parse_reader} {p1 : TK} {q0 : Nat} {b0_0 : Nat} {x0 : List (T_parse_open × Nat)} (h : Heap) (O : List (Nat × AObj)) (hq0 : q0 ≠ 0) (hb0_0 : b0_0 ≠ 0) (hx0 : List.map Prod.fst x0 = p0.open_) (zk0 : zkR x0) (ok : OK h ((q0, .cells [.msl 8 b0_0 0 (List.length p0.open_), .I p0.nodes, .bool p0.done]) :: (b0_0, .cells (fl cK (List.reverse x0))) :: (hidR x0 ++ O))) (hF : OptP ((F_parse_reader_take p0 p1).bind f0) G) (hk : ∀ r b0_0' x0', F_parse_reader_take p0 p1 = some r → b0_0' ≠ 0 → List.map Prod.fst x0' = r.2.open_ → zkR x0' → OK h ((q0, .cells [.msl 8 b0_0' 0 (List.length r.2.open_), .I r.2.nodes, .bool r.2.done]) :: (b0_0', .cells (fl cK (List.reverse x0'))) :: (hidR x0' ++ O)) → OptP (f0 r) G → R (.I r.1) (Hp h ((q0, .cells [.msl 8 b0_0' 0 (List.length r.2.open_), .I r.2.nodes, .bool r.2.done]) :: (b0_0', .cells (fl cK (List.reverse x0'))) :: (hidR x0' ++ O)))) : CallsA Tryz.prog 24 [.ptr q0 0, .agg (cTK p1)] (Hp h ((q0, .cells [.msl 8 b0_0 0 (List.length p0.open_), .I p0.nodes, .bool p0.done]) :: (b0_0, .cells (fl cK (List.reverse x0))) :: (hidR x0 ++ O))) R := by
  obtain ⟨r0, hr, hF⟩ := F_bind hF
  refine (F_parse_reader_take_w (G := fun r => r = r0) p0 p1 q0 b0_0 x0 h O hq0 hb0_0 hx0 zk0 ok ⟨r0, hr, rfl⟩).mono ?_
  rintro _ _ ⟨r, rfl, rfl, b0_0', x0', yy0, yy1, yy2, ok', rfl⟩
  exact hk _ _ _ hr yy0 yy1 yy2 ok' hF
theorem F_parse_Parse_w (p0 : LB) {G : T_api_Node × Int × Int → Prop} (h : Heap) (hF : OptP (F_parse_Parse p0) G) : CallsA Tryz.prog 11 [.sl 1 (List.map c_u8 p0) 0] h fun d h' => ∃ r, G r ∧ d = .tup [.agg (c_T_api_Node r.1), .I r.2.1, .I r.2.2] ∧ h' = h := by
  refine CallsA.ret (C_body Tryz.func11 rfl en_11 Tryz.ntmps11 rfl (fun ok => ?_))
  rw [F_parse_Parse] at hF
  refine C_seq (C_reg (mdl [(2, 1)]) (S_all1 ok rfl ty_zc_30 ?_))
  intro i1 hi1 ok
  refine Ai rfl (Ai rfl (Sn (CR (Ml rfl (S_call (F_scan_All_ok _ hF fun x2 _ hF => (S_m (v := .tup _) rfl (S_ext rfl rfl (S_ext rfl rfl (S_ext rfl rfl (S_a (v := .sl _ _ _) rfl (Ai rfl (Ai rfl (Sn (C_seq (CR (Mi rfl (S_bin rfl rfl (ev_neq ..) (Sn ?_)))))))))))))) (.refl _))))))
  refine C_if (b := (x2.2.2 != (0 : Int))) rfl hF (fun hb3 hF => ?_) (fun hb3 hF => ?_)
  · refine CR (S_bld (v := .agg [.I 0, .str nB, .str nB, .snil, .snil, .str nB]) (b_st ty_zc_30 ty_pl_30 rfl) (S_one 20 (v := .agg [.I 0, .str nB, .str nB, .sl 3 (List.map c_T_api_Attr ([] : List T_api_Attr)) 0, .snil, .str nB]) (.aggC (.cons (.refl _) (.cons (.refl _) (.cons (.refl _) (.cons (.nil _) (.refl _)))))) (Mi rfl (Mi rfl (S_st (j := 0) (cs' := [.I 0, .str nB, .str nB, .sl 3 (List.map c_T_api_Attr ([] : List T_api_Attr)) 0, .snil, .str nB]) ok rfl rfl rfl hi1 rfl ty_sz_30 rfl rfl (fun ok => Ai rfl (Ai rfl (Sn (WP_ret ?_)))))))))
    with_reducible repeat first | apply Exit.sr | apply Exit.br | apply Exit.jr
    refine C_ret (fn := Tryz.f11) rfl (.cell rfl (ld_ptr (j := 0) ok rfl hi1 (p_agg (vs := [.I 0, .str nB, .str nB, .sl 3 (List.map c_T_api_Attr ([] : List T_api_Attr)) 0, .snil, .str nB]) ty_ag_30 ty_sz_30 rfl rfl)) (.tmp (v := .I x2.2.1) rfl (.tmp (v := .I x2.2.2) rfl .nil))) ?_
    exact ⟨_, _, (.tupC (.cons (Wd.toE (.aggC (.cons (.refl _) (.cons (.refl _) (.cons (.refl _) (.cons (.refl _) (.cons (.nil _) (.refl _))))))) (c_T_api_Node_eq _)) (.refl _))), ok.wh, _, F_some hF, rfl, rfl⟩
  · refine WP_skip (C_seq (C_reg (mdl [(26, 1), (28, 1)]) (S_bld (v := .agg [.I 1, .str nB, .str nB, .snil, .snil, .str nB]) (b_st ty_zc_30 ty_pl_30 rfl) (S_one 23 (v := .agg [.I 1, .str nB, .str nB, .sl 3 (List.map c_T_api_Attr ([] : List T_api_Attr)) 0, .snil, .str nB]) (.aggC (.cons (.refl _) (.cons (.refl _) (.cons (.refl _) (.cons (.nil _) (.refl _)))))) (S_call (F_scope_New_ok _ hF fun x4 _ hF => (S_bld (v := .agg [.I 1, .str nB, .str nB, .sl 3 (List.map c_T_api_Attr ([] : List T_api_Attr)) 0, .snil, .str nB, .str nB, .sl 2 (List.map c_T_scope_bind x4.binds) 0]) (b_st ty_zc_60 ty_pl_60 rfl) ?_)) (.nil))))))
    refine S_lit1 (cs := [.I 1, .str nB, .str nB, .sl 3 (List.map c_T_api_Attr ([] : List T_api_Attr)) 0, .snil, .str nB, .str nB, .sl 2 (List.map c_T_scope_bind x4.binds) 0]) (c := cK) (e := [((⟨(⟨(1 : Int), (⟨nB, nB⟩ : T_api_Name), ([] : List T_api_Attr), ([] : List T_api_Node), nB⟩ : T_api_Node), nB, x4⟩ : T_parse_open), 0)]) ok rfl ty_el_61 rfl (by kernel_rfl) rfl ?_
    intro u5 hu5 ok
    obtain ⟨hpe, ok⟩ := Hp_insE ok
    refine S_hpe hpe ?_
    clear hpe
    have hx6 : List.map Prod.fst (((⟨(⟨(1 : Int), (⟨nB, nB⟩ : T_api_Name), ([] : List T_api_Attr), ([] : List T_api_Node), nB⟩ : T_api_Node), nB, x4⟩ : T_parse_open), 0) :: []) = [(⟨(⟨(1 : Int), (⟨nB, nB⟩ : T_api_Name), ([] : List T_api_Attr), ([] : List T_api_Node), nB⟩ : T_api_Node), nB, x4⟩ : T_parse_open)] := rfl
    have zs7 : zkR (((⟨(⟨(1 : Int), (⟨nB, nB⟩ : T_api_Name), ([] : List T_api_Attr), ([] : List T_api_Node), nB⟩ : T_api_Node), nB, x4⟩ : T_parse_open), 0) :: []) := zkR_cons.2 ⟨fun _ => rfl, fun _ h => absurd h List.not_mem_nil⟩
    refine S_bld (v := .agg [.msl 8 u5 0 (List.length ([(⟨(⟨(1 : Int), (⟨nB, nB⟩ : T_api_Name), ([] : List T_api_Attr), ([] : List T_api_Node), nB⟩ : T_api_Node), nB, x4⟩ : T_parse_open)])), .I 0, .bool false]) (b_st ty_zc_63 ty_pl_63 rfl) (S_box1 (cs := [.msl 8 u5 0 (List.length ([(⟨(⟨(1 : Int), (⟨nB, nB⟩ : T_api_Name), ([] : List T_api_Attr), ([] : List T_api_Node), nB⟩ : T_api_Node), nB, x4⟩ : T_parse_open)])), .I 0, .bool false]) ok rfl rfl rfl rfl ?_)
    intro i8 hi8 ok
    refine S_a (v := .ptr _ _) rfl (Sn ?_)
    refine C_join hF (fun (v : Int × LB × LB × (List T_api_Attr) × (List T_api_Node) × LB × (List T_parse_open) × Int × Bool) s' => match v with | (a30, a31, a32, a33, a34, a35, a37, a41, a42) => ∃ g36 : Nat, g36 ≠ 0 ∧ ∃ x38 : List (T_parse_open × Nat), List.map Prod.fst x38 = a37 ∧ zkR x38 ∧ OK h ((i8, .cells [.msl 8 g36 0 (List.length a37), .I a41, .bool a42]) :: (g36, .cells (fl cK (List.reverse x38))) :: (i1, .cells [.I a30, .str a31, .str a32, .sl 3 (List.map c_T_api_Attr a33) 0, .sl 6 (List.map c_T_api_Node a34) 0, .str a35]) :: (hidR x38 ++ [])) ∧ WS s' ⟨mkSl 73 [(0, .sl 1 (List.map c_u8 p0) 0), (2, .ptr i1 0), (8, .ptr i8 0)], Hp h ((i8, .cells [.msl 8 g36 0 (List.length a37), .I a41, .bool a42]) :: (g36, .cells (fl cK (List.reverse x38))) :: (i1, .cells [.I a30, .str a31, .str a32, .sl 3 (List.map c_T_api_Attr a33) 0, .sl 6 (List.map c_T_api_Node a34) 0, .str a35]) :: (hidR x38 ++ []))⟩) (fun J43 hF => ?_) ?_
    · refine CR (Ml rfl (S_lenL rfl ty_sl_51 (Mi rfl (Sn (WP_block ?_)))))
      refine C_loop (σ := Int × LB × LB × (List T_api_Attr) × (List T_api_Node) × LB × (List T_parse_open) × Int × Bool × Int) hF (fun (v : Int × LB × LB × (List T_api_Attr) × (List T_api_Node) × LB × (List T_parse_open) × Int × Bool × Int) s' => match v with | (a44, a45, a46, a47, a48, a49, a51, a55, a56, a57) => ∃ g50 : Nat, g50 ≠ 0 ∧ ∃ x52 : List (T_parse_open × Nat), List.map Prod.fst x52 = a51 ∧ zkR x52 ∧ OK h ((i8, .cells [.msl 8 g50 0 (List.length a51), .I a55, .bool a56]) :: (g50, .cells (fl cK (List.reverse x52))) :: (i1, .cells [.I a44, .str a45, .str a46, .sl 3 (List.map c_T_api_Attr a47) 0, .sl 6 (List.map c_T_api_Node a48) 0, .str a49]) :: (hidR x52 ++ [])) ∧ WS s' ⟨mkSl 73 [(0, .sl 1 (List.map c_u8 p0) 0), (2, .ptr i1 0), (8, .ptr i8 0), (29, .sl 6 (List.map cTK x2.1) 0), (30, .I (x2.1.length : Int)), (31, .I a57)], Hp h ((i8, .cells [.msl 8 g50 0 (List.length a51), .I a55, .bool a56]) :: (g50, .cells (fl cK (List.reverse x52))) :: (i1, .cells [.I a44, .str a45, .str a46, .sl 3 (List.map c_T_api_Attr a47) 0, .sl 6 (List.map c_T_api_Node a48) 0, .str a49]) :: (hidR x52 ++ []))⟩) ?_ ?_
      · have hwo : WO ((i8, .cells [.msl 8 u5 0 (List.length ([(⟨(⟨(1 : Int), (⟨nB, nB⟩ : T_api_Name), ([] : List T_api_Attr), ([] : List T_api_Node), nB⟩ : T_api_Node), nB, x4⟩ : T_parse_open)])), .I 0, .bool false]) :: (u5, .cells (fl cK (List.reverse (((⟨(⟨(1 : Int), (⟨nB, nB⟩ : T_api_Name), ([] : List T_api_Attr), ([] : List T_api_Node), nB⟩ : T_api_Node), nB, x4⟩ : T_parse_open), 0) :: [])))) :: (i1, .cells [.I 0, .str nB, .str nB, .snil, .snil, .str nB]) :: (hidR (((⟨(⟨(1 : Int), (⟨nB, nB⟩ : T_api_Name), ([] : List T_api_Attr), ([] : List T_api_Node), nB⟩ : T_api_Node), nB, x4⟩ : T_parse_open), 0) :: []) ++ [])) ((i8, .cells [.msl 8 u5 0 (List.length ([(⟨(⟨(1 : Int), (⟨nB, nB⟩ : T_api_Name), ([] : List T_api_Attr), ([] : List T_api_Node), nB⟩ : T_api_Node), nB, x4⟩ : T_parse_open)])), .I 0, .bool false]) :: (u5, .cells (fl cK (List.reverse (((⟨(⟨(1 : Int), (⟨nB, nB⟩ : T_api_Name), ([] : List T_api_Attr), ([] : List T_api_Node), nB⟩ : T_api_Node), nB, x4⟩ : T_parse_open), 0) :: [])))) :: (i1, .cells [.I 0, .str nB, .str nB, .sl 3 (List.map c_T_api_Attr ([] : List T_api_Attr)) 0, .sl 6 (List.map c_T_api_Node ([] : List T_api_Node)) 0, .str nB]) :: (hidR (((⟨(⟨(1 : Int), (⟨nB, nB⟩ : T_api_Name), ([] : List T_api_Attr), ([] : List T_api_Node), nB⟩ : T_api_Node), nB, x4⟩ : T_parse_open), 0) :: []) ++ [])) := (.keep (.keep (.weak (.cons (.refl _) (.cons (.refl _) (.cons (.refl _) (.cons (.nil _) (.cons (.nil _) (.refl _)))))) (.refl (hidR (((⟨(⟨(1 : Int), (⟨nB, nB⟩ : T_api_Name), ([] : List T_api_Attr), ([] : List T_api_Node), nB⟩ : T_api_Node), nB, x4⟩ : T_parse_open), 0) :: []) ++ [])))))
        exact ⟨u5, hu5, (((⟨(⟨(1 : Int), (⟨nB, nB⟩ : T_api_Name), ([] : List T_api_Attr), ([] : List T_api_Node), nB⟩ : T_api_Node), nB, x4⟩ : T_parse_open), 0) :: []), hx6, zs7, (hwo.spec ok).1, WS.mk' (.k (.k (.k (.k (.k (.k .nil)))))) ok hwo⟩
      · rintro G58 hG59 rec60 ⟨a44, a45, a46, a47, a48, a49, a51, a55, a56, a57⟩ s' ih61 hF ⟨g50, hg50, x52, hx53, zs54, ok, hws⟩
        refine WP_ws hws ?_
        clear hws s'
        rw [F_parse_Parse_l0] at hF
        refine CR (S_bin rfl rfl (ev_lss ..) (Sn (C_seq ?_)))
        refine C_if (b := (decide (a57 < (x2.1.length : Int)))) rfl hF (fun hb62 hF => ?_) (fun hb62 hF => ?_)
        · refine WP_skip (C_seq (WP_block (C_seq (C_reg (mdl [(10, 1)]) (S_ix rfl rfl ty_sl_51 ty_sz_66 hF (fun x63 _ hF => S_ldQ rfl (p_agg (vs := cTK x63) ty_ag_66 ty_sz_66 rfl rfl) (S_all1 ok rfl ty_zc_66 ?_)))))))
          intro i64 hi64 ok
          refine S_st (j := 0) (cs' := [.I x63.Kind, .I x63.At, .str x63.Name, .sl 2 (List.map cP x63.Pairs) 0, .str x63.Text, .I x63.Refs]) ok rfl rfl rfl hi64 rfl ty_sz_66 rfl rfl (fun ok => Sn (CR (Mp rfl (S_ldP (j := 0) ok rfl rfl rfl hi64 (p_agg (vs := cTK x63) ty_ag_66 ty_sz_66 rfl rfl) ?_))))
          obtain ⟨hpe, ok⟩ := Hp_pull 2 ok rfl
          rw [hpe]; clear hpe
          obtain ⟨hpe, ok⟩ := Hp_pull 2 ok rfl
          rw [hpe]; clear hpe
          obtain ⟨hpe, ok⟩ := Hp_perm ok (((List.perm_append_comm_assoc [(i64, .cells [.I x63.Kind, .I x63.At, .str x63.Name, .sl 2 (List.map cP x63.Pairs) 0, .str x63.Text, .I x63.Refs]), (i1, .cells [.I a44, .str a45, .str a46, .sl 3 (List.map c_T_api_Attr a47) 0, .sl 6 (List.map c_T_api_Node a48) 0, .str a49])] (hidR x52) []).cons _).cons _)
          refine S_hpe hpe ?_
          clear hpe
          refine S_call (F_parse_reader_take_ok (p0 := (⟨a51, a55, a56⟩ : T_parse_reader)) (q0 := i8) (b0_0 := g50) (x0 := x52) h _ hi8 hg50 hx53 zs54 ok hF fun x65 u66 x67 _ hu66 hxu66 zku66 ok hF => ?_) (.refl _)
          obtain ⟨hpe, ok⟩ := Hp_perm ok (((List.perm_append_comm_assoc (hidR x67) [(i64, .cells [.I x63.Kind, .I x63.At, .str x63.Name, .sl 2 (List.map cP x63.Pairs) 0, .str x63.Text, .I x63.Refs]), (i1, .cells [.I a44, .str a45, .str a46, .sl 3 (List.map c_T_api_Attr a47) 0, .sl 6 (List.map c_T_api_Node a48) 0, .str a49])] []).cons _).cons _)
          refine S_hpe hpe ?_
          clear hpe
          refine Ai rfl (Sn (CR (Mi rfl (S_bin rfl rfl (ev_neq ..) (Sn ?_)))))
          refine C_if (b := (x65.1 != (0 : Int))) rfl hF (fun hb68 hF => ?_) (fun hb68 hF => ?_)
          · refine C_seq ?_
            refine C_fork (mdl []) [0, 1, 3] [2, 4, 5, 6] [4, 2, 5, 6] [_, _, _] [_, _, _, _] [_, _, _, _] (by kernel_rfl) rfl rfl rfl rfl (by kernel_rfl) ?_
            refine S_bld (v := .agg [.I 0, .str nB, .str nB, .snil, .snil, .str nB]) (b_st ty_zc_30 ty_pl_30 rfl) (S_faP rfl ty_fd_66_1 ty_sz_3 (Mi rfl (Sn ?_)))
            refine ⟨?_, ?_⟩
            · refine S_ldP (j := 2) ok rfl rfl rfl hi64 (p_one (v := .I x63.At) ty_ag_3 ty_sz_3 rfl) (S_st (j := 3) (cs' := [.I 0, .str nB, .str nB, .snil, .snil, .str nB]) ok rfl rfl rfl hi1 rfl ty_sz_30 rfl rfl (fun ok => Ai rfl (Ai rfl (Sn (WP_ret ?_)))))
              replace hF := hG59 _ (F_some hF)
              with_reducible repeat first | apply Exit.sr | apply Exit.br | apply Exit.jr
              refine C_ret (fn := Tryz.f11) rfl (.cell rfl (ld_ptr (j := 3) ok rfl hi1 (p_agg (vs := [.I 0, .str nB, .str nB, .snil, .snil, .str nB]) ty_ag_30 ty_sz_30 rfl rfl)) (.tmp (v := .I x63.At) rfl (.tmp (v := .I x65.1) rfl .nil))) ?_
              exact ⟨_, _, (.tupC (.cons (Wd.toE (.aggC (.cons (.refl _) (.cons (.refl _) (.cons (.refl _) (.cons (.nil _) (.cons (.nil _) (.refl _))))))) (c_T_api_Node_eq _)) (.refl _))), ok.wh, _, F_some hF, rfl, rfl⟩
            · refine S_st (j := 3) (cs' := [.I 0, .str nB, .str nB, .snil, .snil, .str nB]) ok rfl rfl rfl hi1 rfl ty_sz_30 rfl rfl (fun ok => S_ldP (j := 2) ok rfl rfl rfl hi64 (p_one (v := .I x63.At) ty_ag_3 ty_sz_3 rfl) (Ai rfl (Ai rfl (Sn (WP_ret ?_)))))
              replace hF := hG59 _ (F_some hF)
              with_reducible repeat first | apply Exit.sr | apply Exit.br | apply Exit.jr
              refine C_ret (fn := Tryz.f11) rfl (.cell rfl (ld_ptr (j := 3) ok rfl hi1 (p_agg (vs := [.I 0, .str nB, .str nB, .snil, .snil, .str nB]) ty_ag_30 ty_sz_30 rfl rfl)) (.tmp (v := .I x63.At) rfl (.tmp (v := .I x65.1) rfl .nil))) ?_
              exact ⟨_, _, (.tupC (.cons (Wd.toE (.aggC (.cons (.refl _) (.cons (.refl _) (.cons (.refl _) (.cons (.nil _) (.cons (.nil _) (.refl _))))))) (c_T_api_Node_eq _)) (.refl _))), ok.wh, _, F_some hF, rfl, rfl⟩
          · refine WP_skip (C_reg (mdl []) (S_bin rfl rfl (ev_add ..) (Mi rfl (Sn (ih61 (a44, a45, a46, a47, a48, a49, x65.2.open_, x65.2.nodes, x65.2.done, (IntKind.wrap .i64 (a57 + (1 : Int)))) _ hF ?_)))))
            have hwo : WO ((i8, .cells [.msl 8 u66 0 (List.length x65.2.open_), .I x65.2.nodes, .bool x65.2.done]) :: (u66, .cells (fl cK (List.reverse x67))) :: (i64, .cells [.I x63.Kind, .I x63.At, .str x63.Name, .sl 2 (List.map cP x63.Pairs) 0, .str x63.Text, .I x63.Refs]) :: (i1, .cells [.I a44, .str a45, .str a46, .sl 3 (List.map c_T_api_Attr a47) 0, .sl 6 (List.map c_T_api_Node a48) 0, .str a49]) :: (hidR x67 ++ [])) ((i8, .cells [.msl 8 u66 0 (List.length x65.2.open_), .I x65.2.nodes, .bool x65.2.done]) :: (u66, .cells (fl cK (List.reverse x67))) :: (i1, .cells [.I a44, .str a45, .str a46, .sl 3 (List.map c_T_api_Attr a47) 0, .sl 6 (List.map c_T_api_Node a48) 0, .str a49]) :: (hidR x67 ++ [])) := (.keep (.keep (.drop (.keep (.refl (hidR x67 ++ []))))))
            exact ⟨u66, hu66, x67, hxu66, zku66, (hwo.spec ok).1, WS.mk' (.k (.k (.k (.k (.k (.k .nil)))))) ok hwo⟩
        · refine WP_exit ?_
          simp only [Exit.sel, Exit.blk, Exit.jmp, if_true, if_false, reduceIte, Nat.reduceEqDiff, Nat.succ_ne_zero, Nat.zero_ne_one, Nat.one_ne_zero]
          replace hF := hG59 _ (F_some hF)
          exact ⟨(a44, a45, a46, a47, a48, a49, a51, a55, a56), hF, g50, hg50, x52, hx53, zs54, ok, WS.mk' (.k (.k (.k .nil))) ok (.refl _)⟩
    · rintro ⟨a30, a31, a32, a33, a34, a35, a37, a41, a42⟩ s' hF ⟨g36, hg36, x38, hx39, zs40, ok, hws⟩
      refine WP_ws hws ?_
      clear hws s'
      refine C_seq (WP_block (CR (Mp rfl (S_nilc (v := .ptr _ _) rfl rfl (S_faP rfl ty_fd_63_0 ty_sz_61 (S_ldP (j := 0) ok rfl rfl rfl hi8 (p_one (v := .msl 8 g36 0 (List.length a37)) ty_ag_61 ty_sz_61 rfl) (S_lenM (e := a37) rfl ty_sl_61 (S_bin rfl rfl (ev_gtr ..) (Ab rfl (Sn ?_))))))))))
      refine C_if (b := (decide ((1 : Int) < (a37.length : Int)))) rfl hF (fun hb69 hF => ?_) (fun hb69 hF => ?_)
      · refine CR (S_bld (v := .agg [.I 0, .str nB, .str nB, .snil, .snil, .str nB]) (b_st ty_zc_30 ty_pl_30 rfl) (S_one 52 (v := .agg [.I 0, .str nB, .str nB, .sl 3 (List.map c_T_api_Attr ([] : List T_api_Attr)) 0, .snil, .str nB]) (.aggC (.cons (.refl _) (.cons (.refl _) (.cons (.refl _) (.cons (.nil _) (.refl _)))))) (Ml rfl (S_call (F_scan_Plain_ok _ hF fun x70 _ hF => (S_lenL rfl ty_sl_22 (S_st (j := 2) (cs' := [.I 0, .str nB, .str nB, .sl 3 (List.map c_T_api_Attr ([] : List T_api_Attr)) 0, .snil, .str nB]) ok rfl rfl rfl hi1 rfl ty_sz_30 rfl rfl (fun ok => Ai rfl (Ai rfl (Sn (WP_ret ?_))))))) (.refl _)))))
        with_reducible repeat first | apply Exit.sr | apply Exit.br | apply Exit.jr
        refine C_ret (fn := Tryz.f11) rfl (.cell rfl (ld_ptr (j := 2) ok rfl hi1 (p_agg (vs := [.I 0, .str nB, .str nB, .sl 3 (List.map c_T_api_Attr ([] : List T_api_Attr)) 0, .snil, .str nB]) ty_ag_30 ty_sz_30 rfl rfl)) (.tmp (v := .I (x70.length : Int)) rfl (.tmp (v := .I 26) rfl .nil))) ?_
        exact ⟨_, _, (.tupC (.cons (Wd.toE (.aggC (.cons (.refl _) (.cons (.refl _) (.cons (.refl _) (.cons (.refl _) (.cons (.nil _) (.refl _))))))) (c_T_api_Node_eq _)) (.refl _))), ok.wh, _, F_some hF, rfl, rfl⟩
      · refine CR (Mp rfl (S_nilc (v := .ptr _ _) rfl rfl (S_faP rfl ty_fd_63_2 ty_sz_4 (S_ldP (j := 0) ok rfl rfl rfl hi8 (p_one (v := .bool a42) ty_ag_4 ty_sz_4 rfl) (S_un rfl (ev_not _) (Ab rfl (Sn ?_)))))))
        refine C_if (b := (!a42)) rfl hF (fun hb71 hF => ?_) (fun hb71 hF => ?_)
        · refine CR (S_bld (v := .agg [.I 0, .str nB, .str nB, .snil, .snil, .str nB]) (b_st ty_zc_30 ty_pl_30 rfl) (S_one 62 (v := .agg [.I 0, .str nB, .str nB, .sl 3 (List.map c_T_api_Attr ([] : List T_api_Attr)) 0, .snil, .str nB]) (.aggC (.cons (.refl _) (.cons (.refl _) (.cons (.refl _) (.cons (.nil _) (.refl _)))))) (Ml rfl (S_call (F_scan_Plain_ok _ hF fun x72 _ hF => (S_lenL rfl ty_sl_22 (S_st (j := 2) (cs' := [.I 0, .str nB, .str nB, .sl 3 (List.map c_T_api_Attr ([] : List T_api_Attr)) 0, .snil, .str nB]) ok rfl rfl rfl hi1 rfl ty_sz_30 rfl rfl (fun ok => Ai rfl (Ai rfl (Sn (WP_ret ?_))))))) (.refl _)))))
          with_reducible repeat first | apply Exit.sr | apply Exit.br | apply Exit.jr
          refine C_ret (fn := Tryz.f11) rfl (.cell rfl (ld_ptr (j := 2) ok rfl hi1 (p_agg (vs := [.I 0, .str nB, .str nB, .sl 3 (List.map c_T_api_Attr ([] : List T_api_Attr)) 0, .snil, .str nB]) ty_ag_30 ty_sz_30 rfl rfl)) (.tmp (v := .I (x72.length : Int)) rfl (.tmp (v := .I 30) rfl .nil))) ?_
          exact ⟨_, _, (.tupC (.cons (Wd.toE (.aggC (.cons (.refl _) (.cons (.refl _) (.cons (.refl _) (.cons (.refl _) (.cons (.nil _) (.refl _))))))) (c_T_api_Node_eq _)) (.refl _))), ok.wh, _, F_some hF, rfl, rfl⟩
        · refine WP_skip (CR (Mp rfl (S_nilc (v := .ptr _ _) rfl rfl (S_faP rfl ty_fd_63_0 ty_sz_61 (S_ldP (j := 0) ok rfl rfl rfl hi8 (p_one (v := .msl 8 g36 0 (List.length a37)) ty_ag_61 ty_sz_61 rfl) (S_ixK (e := a37) rfl rfl ty_sl_61 ty_sz_60 hF (fun x73 he74 hF => ?_)))))))
          obtain ⟨t75, xs76, rfl, hx77⟩ := stk_open hx39 he74
          have zt78 := (zkR_cons.1 zs40).1
          have zs79 := (zkR_cons.1 zs40).2
          have hp80 := fl_len cK_len hx77
          have hck : cK (x73.1, t75) = [.I x73.1.node.Kind, .str x73.1.node.Name.URI, .str x73.1.node.Name.Local, .sl 3 (List.map c_T_api_Attr x73.1.node.Attrs) 0, mslO 6 t75 x73.1.node.Kids, .str x73.1.node.Text, .str x73.1.raw, .sl 2 (List.map c_T_scope_bind x73.1.in_.binds) 0] := rfl
          rw [fl_rev, hidR_cons, List.cons_append, hck] at ok
          rw [fl_rev, hidR_cons, List.cons_append, hck]
          clear hck
          refine S_faP rfl ty_fd_60_0 ty_sz_30 ?_
          refine S_ldK (j := 1) (f0 := 0) ok rfl rfl rfl hg36 (by omega) (p_agg (vs := [.I x73.1.node.Kind, .str x73.1.node.Name.URI, .str x73.1.node.Name.Local, .sl 3 (List.map c_T_api_Attr x73.1.node.Attrs) 0, mslO 6 t75 x73.1.node.Kids, .str x73.1.node.Text]) ty_ag_30 ty_sz_30 rfl rfl) ?_
          refine S_frzA (c := c_T_api_Node) (e := x73.1.node.Kids) (cs' := c_T_api_Node x73.1.node) 3 72 4 ok zt78 rfl rfl c_T_api_Node_len rfl (by rw [c_T_api_Node_eq]; rfl) (fun ok => ?_)
          refine S_st (j := 2) (cs' := [.I x73.1.node.Kind, .str x73.1.node.Name.URI, .str x73.1.node.Name.Local, .sl 3 (List.map c_T_api_Attr x73.1.node.Attrs) 0, .sl 6 (List.map c_T_api_Node x73.1.node.Kids) 0, .str x73.1.node.Text]) ok rfl (congrArg D.agg (c_T_api_Node_eq x73.1.node)) rfl hi1 rfl ty_sz_30 rfl rfl (fun ok => Ai rfl (Ai rfl (Sn (WP_ret ?_))))
          with_reducible repeat first | apply Exit.sr | apply Exit.br | apply Exit.jr
          refine C_ret (fn := Tryz.f11) rfl (.cell rfl (ld_ptr (j := 2) ok rfl hi1 (p_agg (vs := [.I x73.1.node.Kind, .str x73.1.node.Name.URI, .str x73.1.node.Name.Local, .sl 3 (List.map c_T_api_Attr x73.1.node.Attrs) 0, .sl 6 (List.map c_T_api_Node x73.1.node.Kids) 0, .str x73.1.node.Text]) ty_ag_30 ty_sz_30 rfl rfl)) (.tmp (v := .I 0) rfl (.tmp (v := .I 0) rfl .nil))) ?_
          exact ⟨_, _, (.tupC (.cons (Wd.toE (.refl _) (c_T_api_Node_eq _)) (.refl _))), ok.wh, _, F_some hF, rfl, rfl⟩
theorem F_parse_Parse_ok {β : Type} {f : T_api_Node × Int × Int → Option β} {G : β → Prop} {R : D → Heap → Prop} {p0 : LB} (h : Heap) (hF : OptP ((F_parse_Parse p0).bind f) G) (hk : ∀ r, F_parse_Parse p0 = some r → OptP (f r) G → R (.tup [.agg (c_T_api_Node r.1), .I r.2.1, .I r.2.2]) h) : CallsA Tryz.prog 11 [.sl 1 (List.map c_u8 p0) 0] h R := by
  obtain ⟨r0, hr, hF⟩ := F_bind hF
  refine (F_parse_Parse_w (G := fun r => r = r0) p0 h ⟨r0, hr, rfl⟩).mono ?_
  rintro _ _ ⟨r, rfl, rfl, rfl⟩
  exact hk _ hr hF
theorem F_lecternlaw06_awake_w {G : Bool → Prop} (h : Heap) (hF : OptP (F_lecternlaw06_awake) G) : CallsA Tryz.prog 9 [] h fun d h' => ∃ r, G r ∧ d = .bool r ∧ h' = h := by
  refine CallsA.ret (C_body Tryz.func9 rfl en_9 Tryz.ntmps9 rfl (fun ok => ?_))
  rw [F_lecternlaw06_awake] at hF
  refine CR (Ab rfl (Sn (C_seq (C_reg (mdl [(8, 5), (9, 5), (1, 1)]) ?_))))
  refine S_lit5 (cs := [.int .u8 60, .int .u8 97, .int .u8 32, .int .u8 120, .int .u8 109, .int .u8 108, .int .u8 110, .int .u8 115, .int .u8 61, .int .u8 39, .int .u8 117, .int .u8 39, .int .u8 32, .int .u8 98, .int .u8 61, .int .u8 39, .int .u8 49, .int .u8 39, .int .u8 62, .int .u8 120, .int .u8 60, .int .u8 33, .int .u8 91, .int .u8 67, .int .u8 68, .int .u8 65, .int .u8 84, .int .u8 65, .int .u8 91, .int .u8 60, .int .u8 93, .int .u8 93, .int .u8 62, .int .u8 38, .int .u8 97, .int .u8 109, .int .u8 112, .int .u8 59, .int .u8 60, .int .u8 47, .int .u8 97, .int .u8 62]) ok rfl ty_el_22 rfl (by kernel_rfl) ?_
  intro i1 hi1 ok
  refine S_cvt (v := .sl 1 (List.map c_u8 ([60, 97, 32, 120, 109, 108, 110, 115, 61, 39, 117, 39, 32, 98, 61, 39, 49, 39, 62, 120, 60, 33, 91, 67, 68, 65, 84, 65, 91, 60, 93, 93, 62, 38, 97, 109, 112, 59, 60, 47, 97, 62] : LB)) 0) (by kernel_rfl) 0 ok rfl rfl hi1 rfl ty_sl_22 ty_ki_5 rfl rfl (fun ok => ?_)
  refine S_call (F_parse_Parse_ok _ hF fun x3 _ hF => (S_m (v := .tup _) rfl (S_ext rfl rfl (S_ext rfl rfl (S_ext rfl rfl (S_all1 ok rfl ty_zc_30 ?_)))))) (.refl _)
  intro i4 hi4 ok
  refine S_st (j := 0) (cs' := [.I x3.1.Kind, .str x3.1.Name.URI, .str x3.1.Name.Local, .sl 3 (List.map c_T_api_Attr x3.1.Attrs) 0, .sl 6 (List.map c_T_api_Node x3.1.Kids) 0, .str x3.1.Text]) ok rfl (congrArg D.agg (c_T_api_Node_eq x3.1)) rfl hi4 rfl ty_sz_30 rfl rfl (fun ok => Ai rfl (Ai rfl (Sn (C_seq (C_reg (mdl [(15, 5), (16, 5), (4, 1)]) ?_)))))
  refine S_lit5 (cs := [.int .u8 60, .int .u8 97, .int .u8 62, .int .u8 60, .int .u8 47, .int .u8 98, .int .u8 62]) ok rfl ty_el_22 rfl (by kernel_rfl) ?_
  intro i5 hi5 ok
  refine S_cvt (v := .sl 1 (List.map c_u8 ([60, 97, 62, 60, 47, 98, 62] : LB)) 0) (by kernel_rfl) 0 ok rfl rfl hi5 rfl ty_sl_22 ty_ki_5 rfl rfl (fun ok => ?_)
  refine S_call (F_parse_Parse_ok _ hF fun x7 _ hF => (S_m (v := .tup _) rfl (S_ext rfl rfl (S_ext rfl rfl (S_ext rfl rfl (S_all1 ok rfl ty_zc_30 ?_)))))) (.refl _)
  intro i8 hi8 ok
  refine S_st (j := 0) (cs' := [.I x7.1.Kind, .str x7.1.Name.URI, .str x7.1.Name.Local, .sl 3 (List.map c_T_api_Attr x7.1.Attrs) 0, .sl 6 (List.map c_T_api_Node x7.1.Kids) 0, .str x7.1.Text]) ok rfl (congrArg D.agg (c_T_api_Node_eq x7.1)) rfl hi8 rfl ty_sz_30 rfl rfl (fun ok => Ai rfl (Ai rfl (Sn (CR (Mi rfl (S_bin rfl rfl (ev_eql ..) (Mb rfl ?_)))))))
  refine S_two (b := (x3.2.2 == (0 : Int))) 3 26 (.bool ((x3.2.2 == (0 : Int)) && (x7.2.2 == (26 : Int)))) (fun hb9 => ?_) (fun hb9 => ?_) ?_
  · refine Sx rfl rfl hb9 (Mi rfl (Sn (Sx rfl rfl hb9 (S_bin rfl rfl (ev_eql ..) (Sn (S_pickT (v := .bool _) rfl hb9 rfl (Sn (.hd (and_t hb9) ?_))))))))
    repeat first | with_reducible exact .refl _ | refine .add ?_ rfl | exact .refl _
  · refine So rfl rfl hb9 (So rfl rfl hb9 (S_pickF (v := .bool _) rfl hb9 rfl (Sn (.hd (and_f hb9) ?_))))
    repeat first | with_reducible exact .refl _ | refine .add ?_ rfl | exact .refl _
  refine Mb rfl ?_
  refine S_two (b := ((x3.2.2 == (0 : Int)) && (x7.2.2 == (26 : Int)))) 3 30 (.bool (((x3.2.2 == (0 : Int)) && (x7.2.2 == (26 : Int))) && (x7.2.1 == (3 : Int)))) (fun hb10 => ?_) (fun hb10 => ?_) ?_
  · refine Sx rfl rfl hb10 (Mi rfl (Sn (Sx rfl rfl hb10 (S_bin rfl rfl (ev_eql ..) (Sn (S_pickT (v := .bool _) rfl hb10 rfl (Sn (.hd (and_t hb10) ?_))))))))
    repeat first | with_reducible exact .refl _ | refine .add ?_ rfl | exact .refl _
  · refine So rfl rfl hb10 (So rfl rfl hb10 (S_pickF (v := .bool _) rfl hb10 rfl (Sn (.hd (and_f hb10) ?_))))
    repeat first | with_reducible exact .refl _ | refine .add ?_ rfl | exact .refl _
  refine Mb rfl ?_
  refine S_two (b := (((x3.2.2 == (0 : Int)) && (x7.2.2 == (26 : Int))) && (x7.2.1 == (3 : Int)))) 5 36 (.bool ((((x3.2.2 == (0 : Int)) && (x7.2.2 == (26 : Int))) && (x7.2.1 == (3 : Int))) && ((x3.1.Kids.length : Int) == (1 : Int)))) (fun hb11 => ?_) (fun hb11 => ?_) ?_
  · refine Sx rfl rfl hb11 (S_faP rfl ty_fd_30_3 ty_sz_28 (Sn (Sx rfl rfl hb11 (S_ldP (j := 2) ok rfl rfl rfl hi4 (p_one (v := .sl 6 (List.map c_T_api_Node x3.1.Kids) 0) ty_ag_28 ty_sz_28 rfl) (Sn (Sx rfl rfl hb11 (S_lenL rfl ty_sl_28 (Sn (Sx rfl rfl hb11 (S_bin rfl rfl (ev_eql ..) (Sn (S_pickT (v := .bool _) rfl hb11 rfl (Sn (.hd (and_t hb11) ?_))))))))))))))
    repeat first | with_reducible exact .refl _ | refine .add ?_ rfl | exact .refl _
  · refine So rfl rfl hb11 (So rfl rfl hb11 (So rfl rfl hb11 (So rfl rfl hb11 (S_pickF (v := .bool _) rfl hb11 rfl (Sn (.hd (and_f hb11) ?_))))))
    repeat first | with_reducible exact .refl _ | refine .add ?_ rfl | exact .refl _
  refine Mb rfl ?_
  refine S_twoJ 8 45 hF (fun J13 hb12 hF => ?_) (fun J13 hb12 hF => ?_) (fun v14 hF => ?_)
  · refine Sx rfl rfl hb12 (S_faP rfl ty_fd_30_3 ty_sz_28 (Sn (Sx rfl rfl hb12 (S_ldP (j := 2) ok rfl rfl rfl hi4 (p_one (v := .sl 6 (List.map c_T_api_Node x3.1.Kids) 0) ty_ag_28 ty_sz_28 rfl) (Sn (Sx rfl rfl hb12 (S_ix rfl rfl ty_sl_28 ty_sz_30 hF (fun x15 _ hF => Sn (Sx rfl rfl hb12 ?_)))))))))
    refine S_faQ rfl ty_fd_30_1 ty_sz_26 (by rw [c_T_api_Node_eq]; rfl) ?_
    refine Sn (Sx rfl rfl hb12 ?_)
    refine S_ldQ rfl (p_agg (vs := c_T_api_Name x15.Name) ty_ag_26 ty_sz_26 (by rw [c_T_api_Node_eq]; rfl) (by rw [c_T_api_Node_eq]; rfl)) ?_
    refine Sn (Sx rfl rfl hb12 (S_bld (v := .agg (c_T_api_Name (⟨([117] : LB), ([97] : LB)⟩ : T_api_Name))) (b_st ty_zc_26 ty_pl_26 rfl) (Sn (Sx rfl rfl hb12 ?_))))
    refine S_bin rfl rfl (e_agg (b := ((x15.Name.URI == (⟨([117] : LB), ([97] : LB)⟩ : T_api_Name).URI) && ((x15.Name.Local == (⟨([117] : LB), ([97] : LB)⟩ : T_api_Name).Local) && true))) ty_qg_26 ty_sf_26 (by simp only [c_T_api_Name, ev_eqF_cons, ev_eqF_nil, ev_part, ty_sf_26, ty_qg_26, ty_ag_9, ty_sz_9, ty_st_9, ty_ag_9, ty_sz_9, ty_st_9, ev_eq_int, ev_eq_str, ev_eq_bool, ev_eq_agg, ev_eq_int2, ev_eq_str2, ev_eq_bool2, List.drop_zero, List.drop_succ_cons, List.length_cons, List.length_nil, List.take_succ_cons, List.take_zero, Option.isSome_some, if_true, Option.bind_some, Option.map_some, Nat.reduceAdd, Nat.reduceLeDiff])) ?_
    refine Sn (S_pickT (v := .bool _) rfl hb12 rfl (Sn ?_))
    refine ⟨_, hF, .hd (.refl _) ?_⟩
    repeat first | with_reducible exact .refl _ | refine .add ?_ rfl | exact .refl _
  · refine So rfl rfl hb12 (So rfl rfl hb12 (So rfl rfl hb12 (So rfl rfl hb12 (So rfl rfl hb12 (So rfl rfl hb12 (So rfl rfl hb12 (S_pickF (v := .bool _) rfl hb12 rfl (Sn ?_))))))))
    refine ⟨_, hF, .hd (.refl _) ?_⟩
    repeat first | with_reducible exact .refl _ | refine .add ?_ rfl | exact .refl _
  · refine Mb rfl ?_
    refine S_twoJ 8 54 hF (fun J17 hb16 hF => ?_) (fun J17 hb16 hF => ?_) (fun v18 hF => ?_)
    · refine Sx rfl rfl hb16 (S_faP rfl ty_fd_30_3 ty_sz_28 (Sn (Sx rfl rfl hb16 (S_ldP (j := 2) ok rfl rfl rfl hi4 (p_one (v := .sl 6 (List.map c_T_api_Node x3.1.Kids) 0) ty_ag_28 ty_sz_28 rfl) (Sn (Sx rfl rfl hb16 (S_ix rfl rfl ty_sl_28 ty_sz_30 hF (fun x19 _ hF => Sn (Sx rfl rfl hb16 ?_)))))))))
      refine S_faQ rfl ty_fd_30_3 ty_sz_28 (by rw [c_T_api_Node_eq]; rfl) ?_
      refine Sn (Sx rfl rfl hb16 (S_ldQ rfl (p_one ty_ag_28 ty_sz_28 (congrArg (List.drop 4) (c_T_api_Node_eq x19))) (Sn (Sx rfl rfl hb16 (S_lenL rfl ty_sl_28 (Sn (Sx rfl rfl hb16 (S_bin rfl rfl (ev_eql ..) (Sn (S_pickT (v := .bool _) rfl hb16 rfl (Sn ?_)))))))))))
      refine ⟨_, hF, .hd (.refl _) ?_⟩
      repeat first | with_reducible exact .refl _ | refine .add ?_ rfl | exact .refl _
    · refine So rfl rfl hb16 (So rfl rfl hb16 (So rfl rfl hb16 (So rfl rfl hb16 (So rfl rfl hb16 (So rfl rfl hb16 (So rfl rfl hb16 (S_pickF (v := .bool _) rfl hb16 rfl (Sn ?_))))))))
      refine ⟨_, hF, .hd (.refl _) ?_⟩
      repeat first | with_reducible exact .refl _ | refine .add ?_ rfl | exact .refl _
    · refine Mb rfl ?_
      refine S_twoJ 10 65 hF (fun J21 hb20 hF => ?_) (fun J21 hb20 hF => ?_) (fun v22 hF => ?_)
      · refine Sx rfl rfl hb20 (S_faP rfl ty_fd_30_3 ty_sz_28 (Sn (Sx rfl rfl hb20 (S_ldP (j := 2) ok rfl rfl rfl hi4 (p_one (v := .sl 6 (List.map c_T_api_Node x3.1.Kids) 0) ty_ag_28 ty_sz_28 rfl) (Sn (Sx rfl rfl hb20 (S_ix rfl rfl ty_sl_28 ty_sz_30 hF (fun x23 _ hF => Sn (Sx rfl rfl hb20 ?_)))))))))
        refine S_faQ rfl ty_fd_30_3 ty_sz_28 (by rw [c_T_api_Node_eq]; rfl) ?_
        refine Sn (Sx rfl rfl hb20 (S_ldQ rfl (p_one ty_ag_28 ty_sz_28 (congrArg (List.drop 4) (c_T_api_Node_eq x23))) (Sn (Sx rfl rfl hb20 (S_ix rfl rfl ty_sl_28 ty_sz_30 hF (fun x24 _ hF => Sn (Sx rfl rfl hb20 ?_)))))))
        refine S_faQ rfl ty_fd_30_4 ty_sz_9 (by rw [c_T_api_Node_eq]; rfl) ?_
        refine Sn (Sx rfl rfl hb20 (S_ldQ rfl (p_one ty_ag_9 ty_sz_9 (congrArg (List.drop 5) (c_T_api_Node_eq x24))) (Sn (Sx rfl rfl hb20 (S_bin rfl rfl e_seql (Sn (S_pickT (v := .bool _) rfl hb20 rfl (Sn ?_))))))))
        refine ⟨_, hF, .hd (.refl _) ?_⟩
        repeat first | with_reducible exact .refl _ | refine .add ?_ rfl | exact .refl _
      · refine So rfl rfl hb20 (So rfl rfl hb20 (So rfl rfl hb20 (So rfl rfl hb20 (So rfl rfl hb20 (So rfl rfl hb20 (So rfl rfl hb20 (So rfl rfl hb20 (So rfl rfl hb20 (S_pickF (v := .bool _) rfl hb20 rfl (Sn ?_))))))))))
        refine ⟨_, hF, .hd (.refl _) ?_⟩
        repeat first | with_reducible exact .refl _ | refine .add ?_ rfl | exact .refl _
      · refine Ab rfl (Sn (WP_ret ?_))
        with_reducible repeat first | apply Exit.sr | apply Exit.br | apply Exit.jr
        refine C_ret (fn := Tryz.f9) rfl (.tmp (v := .bool v22) rfl .nil) ?_
        exact ⟨_, _, (.refl _), ok.wh, _, F_some hF, rfl, rfl⟩
theorem F_lecternlaw06_awake_ok {β : Type} {f : Bool → Option β} {G : β → Prop} {R : D → Heap → Prop} (h : Heap) (hF : OptP ((F_lecternlaw06_awake).bind f) G) (hk : ∀ r, F_lecternlaw06_awake = some r → OptP (f r) G → R (.bool r) h) : CallsA Tryz.prog 9 [] h R := by
  obtain ⟨r0, hr, hF⟩ := F_bind hF
  refine (F_lecternlaw06_awake_w (G := fun r => r = r0)  h ⟨r0, hr, rfl⟩).mono ?_
  rintro _ _ ⟨r, rfl, rfl, rfl⟩
  exact hk _ hr hF
theorem F_lecternref01_Read_w (p0 : LB) (p1 : Int) {G : Int × Int → Prop} (h : Heap) (hF : OptP (F_lecternref01_Read p0 p1) G) : CallsA Tryz.prog 33 [.sl 1 (List.map c_u8 p0) 0, .I p1] h fun d h' => ∃ r, G r ∧ d = .tup [.I r.1, .I r.2] ∧ h' = h := by
  refine CallsA.ret (C_body Tryz.func33 rfl en_33 Tryz.ntmps33 rfl (fun ok => ?_))
  rw [F_lecternref01_Read] at hF
  refine CR (Ai rfl (Ai rfl (Sn (CR (Ml rfl (Mi rfl (S_ix rfl rfl ty_sl_22 ty_sz_5 hF (fun x1 _ hF => S_ldQ rfl (p_one ty_ag_5 ty_sz_5 rfl) (S_conv rfl (e_ci ty_ki_3 ty_un_5) (Ai rfl (Sn (CR (Mi rfl (Ai rfl (Ai rfl (Ai rfl (Sn ?_)))))))))))))))))
  refine C_join hF (fun (v : Int × Int × Int) s' => match v with | (a9, a10, a11) => OK h [] ∧ WS s' ⟨mkSl 95 [(0, .sl 1 (List.map c_u8 p0) 0), (1, .I p1), (7, .I a9), (8, .I a10), (9, .I a11)], Hp h []⟩) (fun J12 hF => ?_) ?_
  · refine WP_block (CR (Mi rfl (S_bin rfl rfl (ev_lss ..) (Ab rfl (Sn ?_)))))
    refine C_if (b := (decide ((IntKind.wrap .i64 (x1.toNat : Int)) < (128 : Int)))) rfl hF (fun hb13 hF => ?_) (fun hb13 hF => ?_)
    · refine CR (Mi rfl (Ai rfl (Ai rfl (Sn (WP_ret ?_)))))
      with_reducible repeat first | apply Exit.sr | apply Exit.br | apply Exit.jr
      refine C_ret (fn := Tryz.f33) rfl (.tmp (v := .I (IntKind.wrap .i64 (x1.toNat : Int))) rfl (.tmp (v := .I 1) rfl .nil)) ?_
      exact ⟨_, _, (.refl _), ok.wh, _, F_some hF, rfl, rfl⟩
    · refine CR (Mi rfl (S_bin rfl rfl (ev_geq ..) (Mb rfl ?_)))
      refine S_two (b := (decide ((192 : Int) ≤ (IntKind.wrap .i64 (x1.toNat : Int))))) 3 28 (.bool ((decide ((192 : Int) ≤ (IntKind.wrap .i64 (x1.toNat : Int)))) && (decide ((IntKind.wrap .i64 (x1.toNat : Int)) < (224 : Int))))) (fun hb14 => ?_) (fun hb14 => ?_) ?_
      · refine Sx rfl rfl hb14 (Mi rfl (Sn (Sx rfl rfl hb14 (S_bin rfl rfl (ev_lss ..) (Sn (S_pickT (v := .bool _) rfl hb14 rfl (Sn (.hd (and_t hb14) ?_))))))))
        repeat first | with_reducible exact .refl _ | refine .add ?_ rfl | exact .refl _
      · refine So rfl rfl hb14 (So rfl rfl hb14 (S_pickF (v := .bool _) rfl hb14 rfl (Sn (.hd (and_f hb14) ?_))))
        repeat first | with_reducible exact .refl _ | refine .add ?_ rfl | exact .refl _
      refine Ab rfl (Sn ?_)
      refine C_if (b := ((decide ((192 : Int) ≤ (IntKind.wrap .i64 (x1.toNat : Int)))) && (decide ((IntKind.wrap .i64 (x1.toNat : Int)) < (224 : Int))))) rfl hF (fun hb15 hF => ?_) (fun hb15 hF => ?_)
      · refine C_reg (mdl []) (Mi rfl (S_bin rfl rfl (ev_sub ..) (Ai rfl (Ai rfl (Ai rfl (Sn ?_))))))
        exact ⟨((2 : Int), (IntKind.wrap .i64 ((IntKind.wrap .i64 (x1.toNat : Int)) - (192 : Int))), (128 : Int)), hF, ok, WS.mk' (.k (.k (.k (.k (.k .nil))))) ok (.refl _)⟩
      · refine CR (Mi rfl (S_bin rfl rfl (ev_geq ..) (Mb rfl ?_)))
        refine S_two (b := (decide ((224 : Int) ≤ (IntKind.wrap .i64 (x1.toNat : Int))))) 3 37 (.bool ((decide ((224 : Int) ≤ (IntKind.wrap .i64 (x1.toNat : Int)))) && (decide ((IntKind.wrap .i64 (x1.toNat : Int)) < (240 : Int))))) (fun hb16 => ?_) (fun hb16 => ?_) ?_
        · refine Sx rfl rfl hb16 (Mi rfl (Sn (Sx rfl rfl hb16 (S_bin rfl rfl (ev_lss ..) (Sn (S_pickT (v := .bool _) rfl hb16 rfl (Sn (.hd (and_t hb16) ?_))))))))
          repeat first | with_reducible exact .refl _ | refine .add ?_ rfl | exact .refl _
        · refine So rfl rfl hb16 (So rfl rfl hb16 (S_pickF (v := .bool _) rfl hb16 rfl (Sn (.hd (and_f hb16) ?_))))
          repeat first | with_reducible exact .refl _ | refine .add ?_ rfl | exact .refl _
        refine Ab rfl (Sn ?_)
        refine C_if (b := ((decide ((224 : Int) ≤ (IntKind.wrap .i64 (x1.toNat : Int)))) && (decide ((IntKind.wrap .i64 (x1.toNat : Int)) < (240 : Int))))) rfl hF (fun hb17 hF => ?_) (fun hb17 hF => ?_)
        · refine C_reg (mdl []) (Mi rfl (S_bin rfl rfl (ev_sub ..) (Ai rfl (Ai rfl (Ai rfl (Sn ?_))))))
          exact ⟨((3 : Int), (IntKind.wrap .i64 ((IntKind.wrap .i64 (x1.toNat : Int)) - (224 : Int))), (2048 : Int)), hF, ok, WS.mk' (.k (.k (.k (.k (.k .nil))))) ok (.refl _)⟩
        · refine CR (Mi rfl (S_bin rfl rfl (ev_geq ..) (Mb rfl ?_)))
          refine S_two (b := (decide ((240 : Int) ≤ (IntKind.wrap .i64 (x1.toNat : Int))))) 3 46 (.bool ((decide ((240 : Int) ≤ (IntKind.wrap .i64 (x1.toNat : Int)))) && (decide ((IntKind.wrap .i64 (x1.toNat : Int)) < (248 : Int))))) (fun hb18 => ?_) (fun hb18 => ?_) ?_
          · refine Sx rfl rfl hb18 (Mi rfl (Sn (Sx rfl rfl hb18 (S_bin rfl rfl (ev_lss ..) (Sn (S_pickT (v := .bool _) rfl hb18 rfl (Sn (.hd (and_t hb18) ?_))))))))
            repeat first | with_reducible exact .refl _ | refine .add ?_ rfl | exact .refl _
          · refine So rfl rfl hb18 (So rfl rfl hb18 (S_pickF (v := .bool _) rfl hb18 rfl (Sn (.hd (and_f hb18) ?_))))
            repeat first | with_reducible exact .refl _ | refine .add ?_ rfl | exact .refl _
          refine Ab rfl (Sn ?_)
          refine C_if (b := ((decide ((240 : Int) ≤ (IntKind.wrap .i64 (x1.toNat : Int)))) && (decide ((IntKind.wrap .i64 (x1.toNat : Int)) < (248 : Int))))) rfl hF (fun hb19 hF => ?_) (fun hb19 hF => ?_)
          · refine C_reg (mdl []) (Mi rfl (S_bin rfl rfl (ev_sub ..) (Ai rfl (Ai rfl (Ai rfl (Sn ?_))))))
            exact ⟨((4 : Int), (IntKind.wrap .i64 ((IntKind.wrap .i64 (x1.toNat : Int)) - (240 : Int))), (65536 : Int)), hF, ok, WS.mk' (.k (.k (.k (.k (.k .nil))))) ok (.refl _)⟩
          · refine CR (Ai rfl (Ai rfl (Sn (WP_ret ?_))))
            with_reducible repeat first | apply Exit.sr | apply Exit.br | apply Exit.jr
            refine C_ret (fn := Tryz.f33) rfl (.tmp (v := .I 0) rfl (.tmp (v := .I 0) rfl .nil)) ?_
            exact ⟨_, _, (.refl _), ok.wh, _, F_some hF, rfl, rfl⟩
  · rintro ⟨a9, a10, a11⟩ s' hF ⟨ok, hws⟩
    refine WP_ws hws ?_
    clear hws s'
    refine C_seq (CR (Mi rfl (Mi rfl (S_bin rfl rfl (ev_add ..) (Ml rfl (S_lenL rfl ty_sl_22 (S_bin rfl rfl (ev_gtr ..) (Sn ?_))))))))
    refine C_if (b := (decide ((p0.length : Int) < (IntKind.wrap .i64 (p1 + a9))))) rfl hF (fun hb20 hF => ?_) (fun hb20 hF => ?_)
    · refine CR (Ai rfl (Ai rfl (Sn (WP_ret ?_))))
      with_reducible repeat first | apply Exit.sr | apply Exit.br | apply Exit.jr
      refine C_ret (fn := Tryz.f33) rfl (.tmp (v := .I 0) rfl (.tmp (v := .I 0) rfl .nil)) ?_
      exact ⟨_, _, (.refl _), ok.wh, _, F_some hF, rfl, rfl⟩
    · refine WP_skip ?_
      refine C_join hF (fun (a27 : Int) s' => OK h [] ∧ WS s' ⟨mkSl 95 [(7, .I a9), (8, .I a27), (9, .I a11)], Hp h []⟩) (fun J28 hF => ?_) ?_
      · refine CR (Ai rfl (Sn (WP_block ?_)))
        refine C_loop (σ := Int × Int) hF (fun (v : Int × Int) s' => match v with | (a29, a30) => OK h [] ∧ WS s' ⟨mkSl 95 [(0, .sl 1 (List.map c_u8 p0) 0), (1, .I p1), (7, .I a9), (8, .I a29), (9, .I a11), (10, .I a30)], Hp h []⟩) ?_ ?_
        · exact ⟨ok, WS.mk' (.k (.k (.k (.k (.k (.k .nil)))))) ok (.refl _)⟩
        · rintro G31 hG32 rec33 ⟨a29, a30⟩ s' ih34 hF ⟨ok, hws⟩
          refine WP_ws hws ?_
          clear hws s'
          rw [F_lecternref01_Read_l0] at hF
          refine C_seq (CR (Mi rfl (Mi rfl (S_bin rfl rfl (ev_lss ..) (Sn ?_)))))
          refine C_if (b := (decide (a30 < a9))) rfl hF (fun hb35 hF => ?_) (fun hb35 hF => ?_)
          · refine WP_skip (C_seq (WP_block (CR (Ml rfl (Mi rfl (Mi rfl (S_bin rfl rfl (ev_add ..) (S_ix rfl rfl ty_sl_22 ty_sz_5 hF (fun x36 _ hF => S_ldQ rfl (p_one ty_ag_5 ty_sz_5 rfl) (S_conv rfl (e_ci ty_ki_3 ty_un_5) (Ai rfl (Sn (C_seq (CR (Mi rfl (S_bin rfl rfl (ev_lss ..) (Mb rfl ?_)))))))))))))))))
            refine S_two (b := (decide ((IntKind.wrap .i64 (x36.toNat : Int)) < (128 : Int)))) 3 72 (.bool ((decide ((IntKind.wrap .i64 (x36.toNat : Int)) < (128 : Int))) || (decide ((191 : Int) < (IntKind.wrap .i64 (x36.toNat : Int)))))) (fun hb37 => ?_) (fun hb37 => ?_) ?_
            · refine So rfl rfl hb37 (So rfl rfl hb37 (S_pickT (v := .bool _) rfl hb37 rfl (Sn (.hd (or_t hb37) ?_))))
              repeat first | with_reducible exact .refl _ | refine .add ?_ rfl | exact .refl _
            · refine Sx rfl rfl hb37 (Mi rfl (Sn (Sx rfl rfl hb37 (S_bin rfl rfl (ev_gtr ..) (Sn (S_pickF (v := .bool _) rfl hb37 rfl (Sn (.hd (or_f hb37) ?_))))))))
              repeat first | with_reducible exact .refl _ | refine .add ?_ rfl | exact .refl _
            refine Sn ?_
            refine C_if (b := ((decide ((IntKind.wrap .i64 (x36.toNat : Int)) < (128 : Int))) || (decide ((191 : Int) < (IntKind.wrap .i64 (x36.toNat : Int)))))) rfl hF (fun hb38 hF => ?_) (fun hb38 hF => ?_)
            · refine CR (Ai rfl (Ai rfl (Sn (WP_ret ?_))))
              replace hF := hG32 _ (F_some hF)
              with_reducible repeat first | apply Exit.sr | apply Exit.br | apply Exit.jr
              refine C_ret (fn := Tryz.f33) rfl (.tmp (v := .I 0) rfl (.tmp (v := .I 0) rfl .nil)) ?_
              exact ⟨_, _, (.refl _), ok.wh, _, F_some hF, rfl, rfl⟩
            · refine WP_skip (C_reg (mdl []) (Mi rfl (S_bin rfl rfl (ev_mul ..) (Mi rfl (S_bin rfl rfl (ev_add ..) (S_bin rfl rfl (ev_sub ..) (Ai rfl (Sn (C_reg (mdl []) (Mi rfl (S_bin rfl rfl (ev_add ..) (Ai rfl (Sn (ih34 ((IntKind.wrap .i64 ((IntKind.wrap .i64 ((IntKind.wrap .i64 ((64 : Int) * a29)) + (IntKind.wrap .i64 (x36.toNat : Int)))) - (128 : Int))), (IntKind.wrap .i64 (a30 + (1 : Int)))) _ hF ?_))))))))))))))
              exact ⟨ok, WS.mk' (.k (.k (.k (.k (.k (.k .nil)))))) ok (.refl _)⟩
          · refine WP_exit ?_
            simp only [Exit.sel, Exit.blk, Exit.jmp, if_true, if_false, reduceIte, Nat.reduceEqDiff, Nat.succ_ne_zero, Nat.zero_ne_one, Nat.one_ne_zero]
            replace hF := hG32 _ (F_some hF)
            exact ⟨a29, hF, ok, WS.mk' (.k (.k (.k .nil))) ok (.refl _)⟩
      · rintro a27 s' hF ⟨ok, hws⟩
        refine WP_ws hws ?_
        clear hws s'
        refine C_seq (CR (Mi rfl (Mi rfl (S_bin rfl rfl (ev_lss ..) (Mb rfl ?_)))))
        refine S_two (b := (decide (a27 < a11))) 3 84 (.bool ((decide (a27 < a11)) || (decide ((1114111 : Int) < a27)))) (fun hb39 => ?_) (fun hb39 => ?_) ?_
        · refine So rfl rfl hb39 (So rfl rfl hb39 (S_pickT (v := .bool _) rfl hb39 rfl (Sn (.hd (or_t hb39) ?_))))
          repeat first | with_reducible exact .refl _ | refine .add ?_ rfl | exact .refl _
        · refine Sx rfl rfl hb39 (Mi rfl (Sn (Sx rfl rfl hb39 (S_bin rfl rfl (ev_gtr ..) (Sn (S_pickF (v := .bool _) rfl hb39 rfl (Sn (.hd (or_f hb39) ?_))))))))
          repeat first | with_reducible exact .refl _ | refine .add ?_ rfl | exact .refl _
        refine Mb rfl ?_
        refine S_two (b := ((decide (a27 < a11)) || (decide ((1114111 : Int) < a27)))) 7 92 (.bool (((decide (a27 < a11)) || (decide ((1114111 : Int) < a27))) || ((decide ((55296 : Int) ≤ a27)) && (decide (a27 ≤ (57343 : Int)))))) (fun hb40 => ?_) (fun hb40 => ?_) ?_
        · refine So rfl rfl hb40 (So rfl rfl hb40 (So rfl rfl hb40 (S_off2 rfl rfl (S_offD (S_off2 rfl rfl (S_offD (So rfl rfl hb40 (S_pickT (v := .bool _) rfl hb40 rfl (Sn (.hd (or_t hb40) ?_))))))))))
          repeat first | with_reducible exact .refl _ | refine .add ?_ rfl | exact .refl _
        · refine Sx rfl rfl hb40 (Mi rfl (Sn (Sx rfl rfl hb40 (S_bin rfl rfl (ev_geq ..) (Sn (Sx rfl rfl hb40 (Mb rfl (Sn ?_))))))))
          refine S_two (b := (decide ((55296 : Int) ≤ a27))) 3 91 (.bool ((decide ((55296 : Int) ≤ a27)) && (decide (a27 ≤ (57343 : Int))))) (fun hb42 => ?_) (fun hb42 => ?_) ?_
          · refine Sx rfl rfl hb42 (Mi rfl (Sn (Sx rfl rfl hb42 (S_bin rfl rfl (ev_leq ..) (Sn (Sx rfl rfl hb40 (S_pickT (v := .bool _) rfl hb42 rfl (Sn (Sn (.hd (and_t hb42) ?_))))))))))
            repeat first | with_reducible exact .refl _ | refine .add ?_ rfl | exact .refl _
          · refine So rfl rfl hb42 (So rfl rfl hb42 (Sx rfl rfl hb40 (S_pickF (v := .bool _) rfl hb42 rfl (Sn (Sn (.hd (and_f hb42) ?_))))))
            repeat first | with_reducible exact .refl _ | refine .add ?_ rfl | exact .refl _
          refine S_pickF (v := .bool _) rfl hb40 rfl (Sn (.hd (or_f hb40) ?_))
          repeat first | with_reducible exact .refl _ | refine .add ?_ rfl | exact .refl _
        refine Sn ?_
        refine C_if (b := (((decide (a27 < a11)) || (decide ((1114111 : Int) < a27))) || ((decide ((55296 : Int) ≤ a27)) && (decide (a27 ≤ (57343 : Int)))))) rfl hF (fun hb43 hF => ?_) (fun hb43 hF => ?_)
        · refine CR (Ai rfl (Ai rfl (Sn (WP_ret ?_))))
          with_reducible repeat first | apply Exit.sr | apply Exit.br | apply Exit.jr
          refine C_ret (fn := Tryz.f33) rfl (.tmp (v := .I 0) rfl (.tmp (v := .I 0) rfl .nil)) ?_
          exact ⟨_, _, (.refl _), ok.wh, _, F_some hF, rfl, rfl⟩
        · refine WP_skip (CR (Mi rfl (Mi rfl (Ai rfl (Ai rfl (Sn (WP_ret ?_)))))))
          with_reducible repeat first | apply Exit.sr | apply Exit.br | apply Exit.jr
          refine C_ret (fn := Tryz.f33) rfl (.tmp (v := .I a27) rfl (.tmp (v := .I a9) rfl .nil)) ?_
          exact ⟨_, _, (.refl _), ok.wh, _, F_some hF, rfl, rfl⟩
theorem F_lecternref01_Read_ok {β : Type} {f : Int × Int → Option β} {G : β → Prop} {R : D → Heap → Prop} {p0 : LB} {p1 : Int} (h : Heap) (hF : OptP ((F_lecternref01_Read p0 p1).bind f) G) (hk : ∀ r, F_lecternref01_Read p0 p1 = some r → OptP (f r) G → R (.tup [.I r.1, .I r.2]) h) : CallsA Tryz.prog 33 [.sl 1 (List.map c_u8 p0) 0, .I p1] h R := by
  obtain ⟨r0, hr, hF⟩ := F_bind hF
  refine (F_lecternref01_Read_w (G := fun r => r = r0) p0 p1 h ⟨r0, hr, rfl⟩).mono ?_
  rintro _ _ ⟨r, rfl, rfl, rfl⟩
  exact hk _ hr hF
theorem F_lecternref01_Start_w (p0 : Int) {G : Bool → Prop} (h : Heap) (hF : OptP (F_lecternref01_Start p0) G) : CallsA Tryz.prog 37 [.I p0] h fun d h' => ∃ r, G r ∧ d = .bool r ∧ h' = h := by
  refine CallsA.ret (C_body Tryz.func37 rfl en_37 Tryz.ntmps37 rfl (fun ok => ?_))
  rw [F_lecternref01_Start] at hF
  refine CR (Ab rfl (Sn (C_seq (WP_block ?_))))
  refine C_join hF (fun (a5 : Bool) s' => OK h [] ∧ WS s' ⟨mkSl 83 [(0, .I p0), (3, .bool a5)], Hp h []⟩) (fun J6 hF => ?_) ?_
  · refine CR (Mi rfl (S_bin rfl rfl (ev_geq ..) (Mb rfl ?_)))
    refine S_two (b := (decide ((65 : Int) ≤ p0))) 3 9 (.bool ((decide ((65 : Int) ≤ p0)) && (decide (p0 ≤ (90 : Int))))) (fun hb7 => ?_) (fun hb7 => ?_) ?_
    · refine Sx rfl rfl hb7 (Mi rfl (Sn (Sx rfl rfl hb7 (S_bin rfl rfl (ev_leq ..) (Sn (S_pickT (v := .bool _) rfl hb7 rfl (Sn (.hd (and_t hb7) ?_))))))))
      repeat first | with_reducible exact .refl _ | refine .add ?_ rfl | exact .refl _
    · refine So rfl rfl hb7 (So rfl rfl hb7 (S_pickF (v := .bool _) rfl hb7 rfl (Sn (.hd (and_f hb7) ?_))))
      repeat first | with_reducible exact .refl _ | refine .add ?_ rfl | exact .refl _
    refine Ab rfl (Sn ?_)
    refine C_if (b := ((decide ((65 : Int) ≤ p0)) && (decide (p0 ≤ (90 : Int))))) rfl hF (fun hb8 hF => ?_) (fun hb8 hF => ?_)
    · refine WP_skip ?_
      exact ⟨((decide ((65 : Int) ≤ p0)) && (decide (p0 ≤ (90 : Int)))), hF, ok, WS.mk' (.k (.k .nil)) ok (.refl _)⟩
    · refine CR (Mi rfl (S_bin rfl rfl (ev_eql ..) (Ab rfl (Sn ?_))))
      refine C_if (b := (p0 == (95 : Int))) rfl hF (fun hb9 hF => ?_) (fun hb9 hF => ?_)
      · refine WP_skip ?_
        exact ⟨(p0 == (95 : Int)), hF, ok, WS.mk' (.k (.k .nil)) ok (.refl _)⟩
      · refine C_reg (mdl []) (Mi rfl (S_bin rfl rfl (ev_geq ..) (Mb rfl ?_)))
        refine S_two (b := (decide ((97 : Int) ≤ p0))) 3 17 (.bool ((decide ((97 : Int) ≤ p0)) && (decide (p0 ≤ (122 : Int))))) (fun hb10 => ?_) (fun hb10 => ?_) ?_
        · refine Sx rfl rfl hb10 (Mi rfl (Sn (Sx rfl rfl hb10 (S_bin rfl rfl (ev_leq ..) (Sn (S_pickT (v := .bool _) rfl hb10 rfl (Sn (.hd (and_t hb10) ?_))))))))
          repeat first | with_reducible exact .refl _ | refine .add ?_ rfl | exact .refl _
        · refine So rfl rfl hb10 (So rfl rfl hb10 (S_pickF (v := .bool _) rfl hb10 rfl (Sn (.hd (and_f hb10) ?_))))
          repeat first | with_reducible exact .refl _ | refine .add ?_ rfl | exact .refl _
        refine Ab rfl (Sn ?_)
        exact ⟨((decide ((97 : Int) ≤ p0)) && (decide (p0 ≤ (122 : Int)))), hF, ok, WS.mk' (.k (.k .nil)) ok (.refl _)⟩
  · rintro a5 s' hF ⟨ok, hws⟩
    refine WP_ws hws ?_
    clear hws s'
    refine C_if (b := a5) rfl hF (fun hb11 hF => ?_) (fun hb11 hF => ?_)
    · refine CR (Ab rfl (Sn (WP_ret ?_)))
      with_reducible repeat first | apply Exit.sr | apply Exit.br | apply Exit.jr
      refine C_ret (fn := Tryz.f37) rfl (.tmp (v := .bool true) rfl .nil) ?_
      exact ⟨_, _, (.refl _), ok.wh, _, F_some hF, rfl, rfl⟩
    · refine CR (Mi rfl (S_bin rfl rfl (ev_geq ..) (Mb rfl ?_)))
      refine S_two (b := (decide ((192 : Int) ≤ p0))) 3 24 (.bool ((decide ((192 : Int) ≤ p0)) && (decide (p0 ≤ (767 : Int))))) (fun hb12 => ?_) (fun hb12 => ?_) ?_
      · refine Sx rfl rfl hb12 (Mi rfl (Sn (Sx rfl rfl hb12 (S_bin rfl rfl (ev_leq ..) (Sn (S_pickT (v := .bool _) rfl hb12 rfl (Sn (.hd (and_t hb12) ?_))))))))
        repeat first | with_reducible exact .refl _ | refine .add ?_ rfl | exact .refl _
      · refine So rfl rfl hb12 (So rfl rfl hb12 (S_pickF (v := .bool _) rfl hb12 rfl (Sn (.hd (and_f hb12) ?_))))
        repeat first | with_reducible exact .refl _ | refine .add ?_ rfl | exact .refl _
      refine Ab rfl (Sn ?_)
      refine C_if (b := ((decide ((192 : Int) ≤ p0)) && (decide (p0 ≤ (767 : Int))))) rfl hF (fun hb13 hF => ?_) (fun hb13 hF => ?_)
      · refine CR (Mi rfl (S_bin rfl rfl (ev_neq ..) (Mb rfl ?_)))
        refine S_two (b := (p0 != (215 : Int))) 3 30 (.bool ((p0 != (215 : Int)) && (p0 != (247 : Int)))) (fun hb14 => ?_) (fun hb14 => ?_) ?_
        · refine Sx rfl rfl hb14 (Mi rfl (Sn (Sx rfl rfl hb14 (S_bin rfl rfl (ev_neq ..) (Sn (S_pickT (v := .bool _) rfl hb14 rfl (Sn (.hd (and_t hb14) ?_))))))))
          repeat first | with_reducible exact .refl _ | refine .add ?_ rfl | exact .refl _
        · refine So rfl rfl hb14 (So rfl rfl hb14 (S_pickF (v := .bool _) rfl hb14 rfl (Sn (.hd (and_f hb14) ?_))))
          repeat first | with_reducible exact .refl _ | refine .add ?_ rfl | exact .refl _
        refine Ab rfl (Sn (WP_ret ?_))
        with_reducible repeat first | apply Exit.sr | apply Exit.br | apply Exit.jr
        refine C_ret (fn := Tryz.f37) rfl (.tmp (v := .bool ((p0 != (215 : Int)) && (p0 != (247 : Int)))) rfl .nil) ?_
        exact ⟨_, _, (.refl _), ok.wh, _, F_some hF, rfl, rfl⟩
      · refine CR (Mi rfl (S_bin rfl rfl (ev_geq ..) (Mb rfl ?_)))
        refine S_two (b := (decide ((880 : Int) ≤ p0))) 3 37 (.bool ((decide ((880 : Int) ≤ p0)) && (decide (p0 ≤ (8191 : Int))))) (fun hb15 => ?_) (fun hb15 => ?_) ?_
        · refine Sx rfl rfl hb15 (Mi rfl (Sn (Sx rfl rfl hb15 (S_bin rfl rfl (ev_leq ..) (Sn (S_pickT (v := .bool _) rfl hb15 rfl (Sn (.hd (and_t hb15) ?_))))))))
          repeat first | with_reducible exact .refl _ | refine .add ?_ rfl | exact .refl _
        · refine So rfl rfl hb15 (So rfl rfl hb15 (S_pickF (v := .bool _) rfl hb15 rfl (Sn (.hd (and_f hb15) ?_))))
          repeat first | with_reducible exact .refl _ | refine .add ?_ rfl | exact .refl _
        refine Ab rfl (Sn ?_)
        refine C_if (b := ((decide ((880 : Int) ≤ p0)) && (decide (p0 ≤ (8191 : Int))))) rfl hF (fun hb16 hF => ?_) (fun hb16 hF => ?_)
        · refine CR (Mi rfl (S_bin rfl rfl (ev_neq ..) (Ab rfl (Sn (WP_ret ?_)))))
          with_reducible repeat first | apply Exit.sr | apply Exit.br | apply Exit.jr
          refine C_ret (fn := Tryz.f37) rfl (.tmp (v := .bool (p0 != (894 : Int))) rfl .nil) ?_
          exact ⟨_, _, (.refl _), ok.wh, _, F_some hF, rfl, rfl⟩
        · refine C_join hF (fun (a18 : Bool) s' => OK h [] ∧ WS s' ⟨mkSl 83 [(0, .I p0), (40, .bool a18)], Hp h []⟩) (fun J19 hF => ?_) ?_
          · refine CR (Mi rfl (S_bin rfl rfl (ev_eql ..) (Ab rfl (Sn ?_))))
            refine C_if (b := (p0 == (8204 : Int))) rfl hF (fun hb20 hF => ?_) (fun hb20 hF => ?_)
            · refine WP_skip ?_
              exact ⟨(p0 == (8204 : Int)), hF, ok, WS.mk' (.k (.k .nil)) ok (.refl _)⟩
            · refine C_reg (mdl []) (Mi rfl (S_bin rfl rfl (ev_eql ..) (Ab rfl (Sn ?_))))
              exact ⟨(p0 == (8205 : Int)), hF, ok, WS.mk' (.k (.k .nil)) ok (.refl _)⟩
          · rintro a18 s' hF ⟨ok, hws⟩
            refine WP_ws hws ?_
            clear hws s'
            refine C_if (b := a18) rfl hF (fun hb21 hF => ?_) (fun hb21 hF => ?_)
            · refine CR (Ab rfl (Sn (WP_ret ?_)))
              with_reducible repeat first | apply Exit.sr | apply Exit.br | apply Exit.jr
              refine C_ret (fn := Tryz.f37) rfl (.tmp (v := .bool true) rfl .nil) ?_
              exact ⟨_, _, (.refl _), ok.wh, _, F_some hF, rfl, rfl⟩
            · refine C_join hF (fun (a27 : Bool) s' => OK h [] ∧ WS s' ⟨mkSl 83 [(0, .I p0), (45, .bool a27)], Hp h []⟩) (fun J28 hF => ?_) ?_
              · refine CR (Mi rfl (S_bin rfl rfl (ev_geq ..) (Mb rfl ?_)))
                refine S_two (b := (decide ((8304 : Int) ≤ p0))) 3 51 (.bool ((decide ((8304 : Int) ≤ p0)) && (decide (p0 ≤ (8591 : Int))))) (fun hb29 => ?_) (fun hb29 => ?_) ?_
                · refine Sx rfl rfl hb29 (Mi rfl (Sn (Sx rfl rfl hb29 (S_bin rfl rfl (ev_leq ..) (Sn (S_pickT (v := .bool _) rfl hb29 rfl (Sn (.hd (and_t hb29) ?_))))))))
                  repeat first | with_reducible exact .refl _ | refine .add ?_ rfl | exact .refl _
                · refine So rfl rfl hb29 (So rfl rfl hb29 (S_pickF (v := .bool _) rfl hb29 rfl (Sn (.hd (and_f hb29) ?_))))
                  repeat first | with_reducible exact .refl _ | refine .add ?_ rfl | exact .refl _
                refine Ab rfl (Sn ?_)
                refine C_if (b := ((decide ((8304 : Int) ≤ p0)) && (decide (p0 ≤ (8591 : Int))))) rfl hF (fun hb30 hF => ?_) (fun hb30 hF => ?_)
                · refine WP_skip ?_
                  exact ⟨((decide ((8304 : Int) ≤ p0)) && (decide (p0 ≤ (8591 : Int)))), hF, ok, WS.mk' (.k (.k .nil)) ok (.refl _)⟩
                · refine CR (Mi rfl (S_bin rfl rfl (ev_geq ..) (Mb rfl ?_)))
                  refine S_two (b := (decide ((11264 : Int) ≤ p0))) 3 57 (.bool ((decide ((11264 : Int) ≤ p0)) && (decide (p0 ≤ (12271 : Int))))) (fun hb31 => ?_) (fun hb31 => ?_) ?_
                  · refine Sx rfl rfl hb31 (Mi rfl (Sn (Sx rfl rfl hb31 (S_bin rfl rfl (ev_leq ..) (Sn (S_pickT (v := .bool _) rfl hb31 rfl (Sn (.hd (and_t hb31) ?_))))))))
                    repeat first | with_reducible exact .refl _ | refine .add ?_ rfl | exact .refl _
                  · refine So rfl rfl hb31 (So rfl rfl hb31 (S_pickF (v := .bool _) rfl hb31 rfl (Sn (.hd (and_f hb31) ?_))))
                    repeat first | with_reducible exact .refl _ | refine .add ?_ rfl | exact .refl _
                  refine Ab rfl (Sn ?_)
                  refine C_if (b := ((decide ((11264 : Int) ≤ p0)) && (decide (p0 ≤ (12271 : Int))))) rfl hF (fun hb32 hF => ?_) (fun hb32 hF => ?_)
                  · refine WP_skip ?_
                    exact ⟨((decide ((11264 : Int) ≤ p0)) && (decide (p0 ≤ (12271 : Int)))), hF, ok, WS.mk' (.k (.k .nil)) ok (.refl _)⟩
                  · refine C_reg (mdl []) (Mi rfl (S_bin rfl rfl (ev_geq ..) (Mb rfl ?_)))
                    refine S_two (b := (decide ((12289 : Int) ≤ p0))) 3 63 (.bool ((decide ((12289 : Int) ≤ p0)) && (decide (p0 ≤ (55295 : Int))))) (fun hb33 => ?_) (fun hb33 => ?_) ?_
                    · refine Sx rfl rfl hb33 (Mi rfl (Sn (Sx rfl rfl hb33 (S_bin rfl rfl (ev_leq ..) (Sn (S_pickT (v := .bool _) rfl hb33 rfl (Sn (.hd (and_t hb33) ?_))))))))
                      repeat first | with_reducible exact .refl _ | refine .add ?_ rfl | exact .refl _
                    · refine So rfl rfl hb33 (So rfl rfl hb33 (S_pickF (v := .bool _) rfl hb33 rfl (Sn (.hd (and_f hb33) ?_))))
                      repeat first | with_reducible exact .refl _ | refine .add ?_ rfl | exact .refl _
                    refine Ab rfl (Sn ?_)
                    exact ⟨((decide ((12289 : Int) ≤ p0)) && (decide (p0 ≤ (55295 : Int)))), hF, ok, WS.mk' (.k (.k .nil)) ok (.refl _)⟩
              · rintro a27 s' hF ⟨ok, hws⟩
                refine WP_ws hws ?_
                clear hws s'
                refine C_if (b := a27) rfl hF (fun hb34 hF => ?_) (fun hb34 hF => ?_)
                · refine CR (Ab rfl (Sn (WP_ret ?_)))
                  with_reducible repeat first | apply Exit.sr | apply Exit.br | apply Exit.jr
                  refine C_ret (fn := Tryz.f37) rfl (.tmp (v := .bool true) rfl .nil) ?_
                  exact ⟨_, _, (.refl _), ok.wh, _, F_some hF, rfl, rfl⟩
                · refine CR (Mi rfl (S_bin rfl rfl (ev_geq ..) (Mb rfl ?_)))
                  refine S_two (b := (decide ((63744 : Int) ≤ p0))) 3 70 (.bool ((decide ((63744 : Int) ≤ p0)) && (decide (p0 ≤ (65533 : Int))))) (fun hb35 => ?_) (fun hb35 => ?_) ?_
                  · refine Sx rfl rfl hb35 (Mi rfl (Sn (Sx rfl rfl hb35 (S_bin rfl rfl (ev_leq ..) (Sn (S_pickT (v := .bool _) rfl hb35 rfl (Sn (.hd (and_t hb35) ?_))))))))
                    repeat first | with_reducible exact .refl _ | refine .add ?_ rfl | exact .refl _
                  · refine So rfl rfl hb35 (So rfl rfl hb35 (S_pickF (v := .bool _) rfl hb35 rfl (Sn (.hd (and_f hb35) ?_))))
                    repeat first | with_reducible exact .refl _ | refine .add ?_ rfl | exact .refl _
                  refine Ab rfl (Sn ?_)
                  refine C_if (b := ((decide ((63744 : Int) ≤ p0)) && (decide (p0 ≤ (65533 : Int))))) rfl hF (fun hb36 hF => ?_) (fun hb36 hF => ?_)
                  · refine CR (Mi rfl (S_bin rfl rfl (ev_lss ..) (Mb rfl ?_)))
                    refine S_two (b := (decide (p0 < (64976 : Int)))) 3 76 (.bool ((decide (p0 < (64976 : Int))) || (decide ((65008 : Int) ≤ p0)))) (fun hb37 => ?_) (fun hb37 => ?_) ?_
                    · refine So rfl rfl hb37 (So rfl rfl hb37 (S_pickT (v := .bool _) rfl hb37 rfl (Sn (.hd (or_t hb37) ?_))))
                      repeat first | with_reducible exact .refl _ | refine .add ?_ rfl | exact .refl _
                    · refine Sx rfl rfl hb37 (Mi rfl (Sn (Sx rfl rfl hb37 (S_bin rfl rfl (ev_geq ..) (Sn (S_pickF (v := .bool _) rfl hb37 rfl (Sn (.hd (or_f hb37) ?_))))))))
                      repeat first | with_reducible exact .refl _ | refine .add ?_ rfl | exact .refl _
                    refine Ab rfl (Sn (WP_ret ?_))
                    with_reducible repeat first | apply Exit.sr | apply Exit.br | apply Exit.jr
                    refine C_ret (fn := Tryz.f37) rfl (.tmp (v := .bool ((decide (p0 < (64976 : Int))) || (decide ((65008 : Int) ≤ p0)))) rfl .nil) ?_
                    exact ⟨_, _, (.refl _), ok.wh, _, F_some hF, rfl, rfl⟩
                  · refine WP_skip (CR (Mi rfl (S_bin rfl rfl (ev_geq ..) (Mb rfl ?_))))
                    refine S_two (b := (decide ((65536 : Int) ≤ p0))) 3 82 (.bool ((decide ((65536 : Int) ≤ p0)) && (decide (p0 ≤ (983039 : Int))))) (fun hb38 => ?_) (fun hb38 => ?_) ?_
                    · refine Sx rfl rfl hb38 (Mi rfl (Sn (Sx rfl rfl hb38 (S_bin rfl rfl (ev_leq ..) (Sn (S_pickT (v := .bool _) rfl hb38 rfl (Sn (.hd (and_t hb38) ?_))))))))
                      repeat first | with_reducible exact .refl _ | refine .add ?_ rfl | exact .refl _
                    · refine So rfl rfl hb38 (So rfl rfl hb38 (S_pickF (v := .bool _) rfl hb38 rfl (Sn (.hd (and_f hb38) ?_))))
                      repeat first | with_reducible exact .refl _ | refine .add ?_ rfl | exact .refl _
                    refine Ab rfl (Sn (WP_ret ?_))
                    with_reducible repeat first | apply Exit.sr | apply Exit.br | apply Exit.jr
                    refine C_ret (fn := Tryz.f37) rfl (.tmp (v := .bool ((decide ((65536 : Int) ≤ p0)) && (decide (p0 ≤ (983039 : Int))))) rfl .nil) ?_
                    exact ⟨_, _, (.refl _), ok.wh, _, F_some hF, rfl, rfl⟩
theorem F_lecternref01_Start_ok {β : Type} {f : Bool → Option β} {G : β → Prop} {R : D → Heap → Prop} {p0 : Int} (h : Heap) (hF : OptP ((F_lecternref01_Start p0).bind f) G) (hk : ∀ r, F_lecternref01_Start p0 = some r → OptP (f r) G → R (.bool r) h) : CallsA Tryz.prog 37 [.I p0] h R := by
  obtain ⟨r0, hr, hF⟩ := F_bind hF
  refine (F_lecternref01_Start_w (G := fun r => r = r0) p0 h ⟨r0, hr, rfl⟩).mono ?_
  rintro _ _ ⟨r, rfl, rfl, rfl⟩
  exact hk _ hr hF
theorem F_lecternref01_Part_w (p0 : Int) {G : Bool → Prop} (h : Heap) (hF : OptP (F_lecternref01_Part p0) G) : CallsA Tryz.prog 36 [.I p0] h fun d h' => ∃ r, G r ∧ d = .bool r ∧ h' = h := by
  refine CallsA.ret (C_body Tryz.func36 rfl en_36 Tryz.ntmps36 rfl (fun ok => ?_))
  rw [F_lecternref01_Part] at hF
  refine CR (Ab rfl (Sn (CR (Mi rfl (S_call (F_lecternref01_Start_ok _ hF fun x1 _ hF => (Mb rfl ?_)) (.refl _))))))
  refine S_two (b := x1) 3 8 (.bool (x1 || (p0 == (45 : Int)))) (fun hb2 => ?_) (fun hb2 => ?_) ?_
  · refine So rfl rfl hb2 (So rfl rfl hb2 (S_pickT (v := .bool _) rfl hb2 rfl (Sn (.hd (or_t hb2) ?_))))
    repeat first | with_reducible exact .refl _ | refine .add ?_ rfl | exact .refl _
  · refine Sx rfl rfl hb2 (Mi rfl (Sn (Sx rfl rfl hb2 (S_bin rfl rfl (ev_eql ..) (Sn (S_pickF (v := .bool _) rfl hb2 rfl (Sn (.hd (or_f hb2) ?_))))))))
    repeat first | with_reducible exact .refl _ | refine .add ?_ rfl | exact .refl _
  refine Mb rfl ?_
  refine S_two (b := (x1 || (p0 == (45 : Int)))) 3 12 (.bool ((x1 || (p0 == (45 : Int))) || (p0 == (46 : Int)))) (fun hb3 => ?_) (fun hb3 => ?_) ?_
  · refine So rfl rfl hb3 (So rfl rfl hb3 (S_pickT (v := .bool _) rfl hb3 rfl (Sn (.hd (or_t hb3) ?_))))
    repeat first | with_reducible exact .refl _ | refine .add ?_ rfl | exact .refl _
  · refine Sx rfl rfl hb3 (Mi rfl (Sn (Sx rfl rfl hb3 (S_bin rfl rfl (ev_eql ..) (Sn (S_pickF (v := .bool _) rfl hb3 rfl (Sn (.hd (or_f hb3) ?_))))))))
    repeat first | with_reducible exact .refl _ | refine .add ?_ rfl | exact .refl _
  refine Mb rfl ?_
  refine S_two (b := ((x1 || (p0 == (45 : Int))) || (p0 == (46 : Int)))) 7 20 (.bool (((x1 || (p0 == (45 : Int))) || (p0 == (46 : Int))) || ((decide ((48 : Int) ≤ p0)) && (decide (p0 ≤ (57 : Int)))))) (fun hb4 => ?_) (fun hb4 => ?_) ?_
  · refine So rfl rfl hb4 (So rfl rfl hb4 (So rfl rfl hb4 (S_off2 rfl rfl (S_offD (S_off2 rfl rfl (S_offD (So rfl rfl hb4 (S_pickT (v := .bool _) rfl hb4 rfl (Sn (.hd (or_t hb4) ?_))))))))))
    repeat first | with_reducible exact .refl _ | refine .add ?_ rfl | exact .refl _
  · refine Sx rfl rfl hb4 (Mi rfl (Sn (Sx rfl rfl hb4 (S_bin rfl rfl (ev_geq ..) (Sn (Sx rfl rfl hb4 (Mb rfl (Sn ?_))))))))
    refine S_two (b := (decide ((48 : Int) ≤ p0))) 3 19 (.bool ((decide ((48 : Int) ≤ p0)) && (decide (p0 ≤ (57 : Int))))) (fun hb6 => ?_) (fun hb6 => ?_) ?_
    · refine Sx rfl rfl hb6 (Mi rfl (Sn (Sx rfl rfl hb6 (S_bin rfl rfl (ev_leq ..) (Sn (Sx rfl rfl hb4 (S_pickT (v := .bool _) rfl hb6 rfl (Sn (Sn (.hd (and_t hb6) ?_))))))))))
      repeat first | with_reducible exact .refl _ | refine .add ?_ rfl | exact .refl _
    · refine So rfl rfl hb6 (So rfl rfl hb6 (Sx rfl rfl hb4 (S_pickF (v := .bool _) rfl hb6 rfl (Sn (Sn (.hd (and_f hb6) ?_))))))
      repeat first | with_reducible exact .refl _ | refine .add ?_ rfl | exact .refl _
    refine S_pickF (v := .bool _) rfl hb4 rfl (Sn (.hd (or_f hb4) ?_))
    repeat first | with_reducible exact .refl _ | refine .add ?_ rfl | exact .refl _
  refine Mb rfl ?_
  refine S_two (b := (((x1 || (p0 == (45 : Int))) || (p0 == (46 : Int))) || ((decide ((48 : Int) ≤ p0)) && (decide (p0 ≤ (57 : Int)))))) 3 24 (.bool ((((x1 || (p0 == (45 : Int))) || (p0 == (46 : Int))) || ((decide ((48 : Int) ≤ p0)) && (decide (p0 ≤ (57 : Int))))) || (p0 == (183 : Int)))) (fun hb7 => ?_) (fun hb7 => ?_) ?_
  · refine So rfl rfl hb7 (So rfl rfl hb7 (S_pickT (v := .bool _) rfl hb7 rfl (Sn (.hd (or_t hb7) ?_))))
    repeat first | with_reducible exact .refl _ | refine .add ?_ rfl | exact .refl _
  · refine Sx rfl rfl hb7 (Mi rfl (Sn (Sx rfl rfl hb7 (S_bin rfl rfl (ev_eql ..) (Sn (S_pickF (v := .bool _) rfl hb7 rfl (Sn (.hd (or_f hb7) ?_))))))))
    repeat first | with_reducible exact .refl _ | refine .add ?_ rfl | exact .refl _
  refine Mb rfl ?_
  refine S_two (b := ((((x1 || (p0 == (45 : Int))) || (p0 == (46 : Int))) || ((decide ((48 : Int) ≤ p0)) && (decide (p0 ≤ (57 : Int))))) || (p0 == (183 : Int)))) 7 32 (.bool (((((x1 || (p0 == (45 : Int))) || (p0 == (46 : Int))) || ((decide ((48 : Int) ≤ p0)) && (decide (p0 ≤ (57 : Int))))) || (p0 == (183 : Int))) || ((decide ((768 : Int) ≤ p0)) && (decide (p0 ≤ (879 : Int)))))) (fun hb8 => ?_) (fun hb8 => ?_) ?_
  · refine So rfl rfl hb8 (So rfl rfl hb8 (So rfl rfl hb8 (S_off2 rfl rfl (S_offD (S_off2 rfl rfl (S_offD (So rfl rfl hb8 (S_pickT (v := .bool _) rfl hb8 rfl (Sn (.hd (or_t hb8) ?_))))))))))
    repeat first | with_reducible exact .refl _ | refine .add ?_ rfl | exact .refl _
  · refine Sx rfl rfl hb8 (Mi rfl (Sn (Sx rfl rfl hb8 (S_bin rfl rfl (ev_geq ..) (Sn (Sx rfl rfl hb8 (Mb rfl (Sn ?_))))))))
    refine S_two (b := (decide ((768 : Int) ≤ p0))) 3 31 (.bool ((decide ((768 : Int) ≤ p0)) && (decide (p0 ≤ (879 : Int))))) (fun hb10 => ?_) (fun hb10 => ?_) ?_
    · refine Sx rfl rfl hb10 (Mi rfl (Sn (Sx rfl rfl hb10 (S_bin rfl rfl (ev_leq ..) (Sn (Sx rfl rfl hb8 (S_pickT (v := .bool _) rfl hb10 rfl (Sn (Sn (.hd (and_t hb10) ?_))))))))))
      repeat first | with_reducible exact .refl _ | refine .add ?_ rfl | exact .refl _
    · refine So rfl rfl hb10 (So rfl rfl hb10 (Sx rfl rfl hb8 (S_pickF (v := .bool _) rfl hb10 rfl (Sn (Sn (.hd (and_f hb10) ?_))))))
      repeat first | with_reducible exact .refl _ | refine .add ?_ rfl | exact .refl _
    refine S_pickF (v := .bool _) rfl hb8 rfl (Sn (.hd (or_f hb8) ?_))
    repeat first | with_reducible exact .refl _ | refine .add ?_ rfl | exact .refl _
  refine Mb rfl ?_
  refine S_two (b := (((((x1 || (p0 == (45 : Int))) || (p0 == (46 : Int))) || ((decide ((48 : Int) ≤ p0)) && (decide (p0 ≤ (57 : Int))))) || (p0 == (183 : Int))) || ((decide ((768 : Int) ≤ p0)) && (decide (p0 ≤ (879 : Int)))))) 3 36 (.bool ((((((x1 || (p0 == (45 : Int))) || (p0 == (46 : Int))) || ((decide ((48 : Int) ≤ p0)) && (decide (p0 ≤ (57 : Int))))) || (p0 == (183 : Int))) || ((decide ((768 : Int) ≤ p0)) && (decide (p0 ≤ (879 : Int))))) || (p0 == (8255 : Int)))) (fun hb11 => ?_) (fun hb11 => ?_) ?_
  · refine So rfl rfl hb11 (So rfl rfl hb11 (S_pickT (v := .bool _) rfl hb11 rfl (Sn (.hd (or_t hb11) ?_))))
    repeat first | with_reducible exact .refl _ | refine .add ?_ rfl | exact .refl _
  · refine Sx rfl rfl hb11 (Mi rfl (Sn (Sx rfl rfl hb11 (S_bin rfl rfl (ev_eql ..) (Sn (S_pickF (v := .bool _) rfl hb11 rfl (Sn (.hd (or_f hb11) ?_))))))))
    repeat first | with_reducible exact .refl _ | refine .add ?_ rfl | exact .refl _
  refine Mb rfl ?_
  refine S_two (b := ((((((x1 || (p0 == (45 : Int))) || (p0 == (46 : Int))) || ((decide ((48 : Int) ≤ p0)) && (decide (p0 ≤ (57 : Int))))) || (p0 == (183 : Int))) || ((decide ((768 : Int) ≤ p0)) && (decide (p0 ≤ (879 : Int))))) || (p0 == (8255 : Int)))) 3 40 (.bool (((((((x1 || (p0 == (45 : Int))) || (p0 == (46 : Int))) || ((decide ((48 : Int) ≤ p0)) && (decide (p0 ≤ (57 : Int))))) || (p0 == (183 : Int))) || ((decide ((768 : Int) ≤ p0)) && (decide (p0 ≤ (879 : Int))))) || (p0 == (8255 : Int))) || (p0 == (8256 : Int)))) (fun hb12 => ?_) (fun hb12 => ?_) ?_
  · refine So rfl rfl hb12 (So rfl rfl hb12 (S_pickT (v := .bool _) rfl hb12 rfl (Sn (.hd (or_t hb12) ?_))))
    repeat first | with_reducible exact .refl _ | refine .add ?_ rfl | exact .refl _
  · refine Sx rfl rfl hb12 (Mi rfl (Sn (Sx rfl rfl hb12 (S_bin rfl rfl (ev_eql ..) (Sn (S_pickF (v := .bool _) rfl hb12 rfl (Sn (.hd (or_f hb12) ?_))))))))
    repeat first | with_reducible exact .refl _ | refine .add ?_ rfl | exact .refl _
  refine Ab rfl (Sn (WP_ret ?_))
  with_reducible repeat first | apply Exit.sr | apply Exit.br | apply Exit.jr
  refine C_ret (fn := Tryz.f36) rfl (.tmp (v := .bool (((((((x1 || (p0 == (45 : Int))) || (p0 == (46 : Int))) || ((decide ((48 : Int) ≤ p0)) && (decide (p0 ≤ (57 : Int))))) || (p0 == (183 : Int))) || ((decide ((768 : Int) ≤ p0)) && (decide (p0 ≤ (879 : Int))))) || (p0 == (8255 : Int))) || (p0 == (8256 : Int)))) rfl .nil) ?_
  exact ⟨_, _, (.refl _), ok.wh, _, F_some hF, rfl, rfl⟩
theorem F_lecternref01_Part_ok {β : Type} {f : Bool → Option β} {G : β → Prop} {R : D → Heap → Prop} {p0 : Int} (h : Heap) (hF : OptP ((F_lecternref01_Part p0).bind f) G) (hk : ∀ r, F_lecternref01_Part p0 = some r → OptP (f r) G → R (.bool r) h) : CallsA Tryz.prog 36 [.I p0] h R := by
  obtain ⟨r0, hr, hF⟩ := F_bind hF
  refine (F_lecternref01_Part_w (G := fun r => r = r0) p0 h ⟨r0, hr, rfl⟩).mono ?_
  rintro _ _ ⟨r, rfl, rfl, rfl⟩
  exact hk _ hr hF
theorem F_lecternref01_Name_w (p0 : LB) {G : Bool → Prop} (h : Heap) (hF : OptP (F_lecternref01_Name p0) G) : CallsA Tryz.prog 17 [.str p0] h fun d h' => ∃ r, G r ∧ d = .bool r ∧ h' = h := by
  refine CallsA.ret (C_body Tryz.func17 rfl en_17 Tryz.ntmps17 rfl (fun ok => ?_))
  rw [F_lecternref01_Name] at hF
  refine CR (Ab rfl (Sn (CR (Ms rfl (S_byt0 rfl rfl ty_sl_22 ty_st_9 ty_ki_5 (S_a (v := .sl _ _ _) rfl (Sn (C_seq (CR (Ml rfl (S_lenL rfl ty_sl_22 (S_bin rfl rfl (ev_eql ..) (Mb rfl ?_)))))))))))))
  refine S_two (b := ((p0.length : Int) == (0 : Int))) 4 16 (.bool (((p0.length : Int) == (0 : Int)) || (decide ((100 : Int) < (p0.length : Int))))) (fun hb1 => ?_) (fun hb1 => ?_) ?_
  · refine So rfl rfl hb1 (So rfl rfl hb1 (So rfl rfl hb1 (S_pickT (v := .bool _) rfl hb1 rfl (Sn (.hd (or_t hb1) ?_)))))
    repeat first | with_reducible exact .refl _ | refine .add ?_ rfl | exact .refl _
  · refine Sx rfl rfl hb1 (Ml rfl (Sn (Sx rfl rfl hb1 (S_lenL rfl ty_sl_22 (Sn (Sx rfl rfl hb1 (S_bin rfl rfl (ev_gtr ..) (Sn (S_pickF (v := .bool _) rfl hb1 rfl (Sn (.hd (or_f hb1) ?_)))))))))))
    repeat first | with_reducible exact .refl _ | refine .add ?_ rfl | exact .refl _
  refine Sn ?_
  refine C_if (b := (((p0.length : Int) == (0 : Int)) || (decide ((100 : Int) < (p0.length : Int))))) rfl hF (fun hb2 hF => ?_) (fun hb2 hF => ?_)
  · refine CR (Ab rfl (Sn (WP_ret ?_)))
    with_reducible repeat first | apply Exit.sr | apply Exit.br | apply Exit.jr
    refine C_ret (fn := Tryz.f17) rfl (.tmp (v := .bool false) rfl .nil) ?_
    exact ⟨_, _, (.refl _), ok.wh, _, F_some hF, rfl, rfl⟩
  · refine WP_skip ?_
    refine C_join hF (fun (_ : Unit) s' => OK h [] ∧ WS s' ⟨mkSl 46 [], Hp h []⟩) (fun J18 hF => ?_) ?_
    · refine CR (Ai rfl (Sn (WP_block ?_)))
      refine C_loop (σ := Int) hF (fun (a19 : Int) s' => OK h [] ∧ WS s' ⟨mkSl 46 [(3, .sl 1 (List.map c_u8 p0) 0), (4, .I a19)], Hp h []⟩) ?_ ?_
      · exact ⟨ok, WS.mk' (.k (.k .nil)) ok (.refl _)⟩
      · rintro G20 hG21 rec22 a19 s' ih23 hF ⟨ok, hws⟩
        refine WP_ws hws ?_
        clear hws s'
        rw [F_lecternref01_Name_l0] at hF
        refine C_seq (CR (Mi rfl (Ml rfl (S_lenL rfl ty_sl_22 (S_bin rfl rfl (ev_lss ..) (Sn ?_))))))
        refine C_if (b := (decide (a19 < (p0.length : Int)))) rfl hF (fun hb24 hF => ?_) (fun hb24 hF => ?_)
        · refine WP_skip (WP_block (CR (Ml rfl (Mi rfl (S_call (F_lecternref01_Read_ok _ hF fun x25 _ hF => (S_m (v := .tup _) rfl (S_ext rfl rfl (S_ext rfl rfl (Ai rfl (Ai rfl (Sn (C_seq (CR (Mi rfl (S_bin rfl rfl (ev_eql ..) (Mb rfl ?_)))))))))))) (.refl _))))))
          refine S_twoJ 4 33 hF (fun J27 hb26 hF => ?_) (fun J27 hb26 hF => ?_) (fun v28 hF => ?_)
          · refine So rfl rfl hb26 (So rfl rfl hb26 (So rfl rfl hb26 (S_pickT (v := .bool _) rfl hb26 rfl (Sn ?_))))
            refine ⟨_, hF, .hd (.refl _) ?_⟩
            repeat first | with_reducible exact .refl _ | refine .add ?_ rfl | exact .refl _
          · refine Sx rfl rfl hb26 (Mi rfl (Sn (Sx rfl rfl hb26 (S_call (F_lecternref01_Part_ok _ hF fun x29 _ hF => (Sn (Sx rfl rfl hb26 (S_un rfl (ev_not _) (Sn (S_pickF (v := .bool _) rfl hb26 rfl (Sn ?_))))))) (.refl _)))))
            refine ⟨_, hF, .hd (.refl _) ?_⟩
            repeat first | with_reducible exact .refl _ | refine .add ?_ rfl | exact .refl _
          · refine Mb rfl ?_
            refine S_twoJ 8 42 hF (fun J31 hb30 hF => ?_) (fun J31 hb30 hF => ?_) (fun v32 hF => ?_)
            · refine So rfl rfl hb30 (So rfl rfl hb30 (So rfl rfl hb30 (S_off2 rfl rfl (S_offD (S_off2 rfl rfl (S_offD (S_off2 rfl rfl (S_offD (So rfl rfl hb30 (S_pickT (v := .bool _) rfl hb30 rfl (Sn ?_)))))))))))
              refine ⟨_, hF, .hd (.refl _) ?_⟩
              repeat first | with_reducible exact .refl _ | refine .add ?_ rfl | exact .refl _
            · refine Sx rfl rfl hb30 (Mi rfl (Sn (Sx rfl rfl hb30 (S_bin rfl rfl (ev_eql ..) (Sn (Sx rfl rfl hb30 (Mb rfl (Sn ?_))))))))
              refine S_twoJ 4 41 hF (fun J34 hb33 hF => ?_) (fun J34 hb33 hF => ?_) (fun v35 hF => ?_)
              · refine Sx rfl rfl hb33 (Mi rfl (Sn (Sx rfl rfl hb33 (S_call (F_lecternref01_Start_ok _ hF fun x36 _ hF => (Sn (Sx rfl rfl hb33 (S_un rfl (ev_not _) (Sn (Sx rfl rfl hb30 (S_pickT (v := .bool _) rfl hb33 rfl (Sn (Sn ?_))))))))) (.refl _)))))
                refine ⟨_, hF, .hd (.refl _) ?_⟩
                repeat first | with_reducible exact .refl _ | refine .add ?_ rfl | exact .refl _
              · refine So rfl rfl hb33 (So rfl rfl hb33 (So rfl rfl hb33 (Sx rfl rfl hb30 (S_pickF (v := .bool _) rfl hb33 rfl (Sn (Sn ?_))))))
                refine ⟨_, hF, .hd (.refl _) ?_⟩
                repeat first | with_reducible exact .refl _ | refine .add ?_ rfl | exact .refl _
              · refine S_pickF (v := .bool _) rfl hb30 rfl (Sn ?_)
                refine ⟨_, hF, .hd (.refl _) ?_⟩
                repeat first | with_reducible exact .refl _ | refine .add ?_ rfl | exact .refl _
            · refine Sn ?_
              refine C_if (b := v32) rfl hF (fun hb37 hF => ?_) (fun hb37 hF => ?_)
              · refine CR (Ab rfl (Sn (WP_ret ?_)))
                replace hF := hG21 _ (F_some hF)
                with_reducible repeat first | apply Exit.sr | apply Exit.br | apply Exit.jr
                refine C_ret (fn := Tryz.f17) rfl (.tmp (v := .bool false) rfl .nil) ?_
                exact ⟨_, _, (.refl _), ok.wh, _, F_some hF, rfl, rfl⟩
              · refine WP_skip (C_reg (mdl []) (Mi rfl (Mi rfl (S_bin rfl rfl (ev_add ..) (Ai rfl (Sn (ih23 (IntKind.wrap .i64 (a19 + x25.2)) _ hF ?_)))))))
                exact ⟨ok, WS.mk' (.k (.k .nil)) ok (.refl _)⟩
        · refine WP_exit ?_
          simp only [Exit.sel, Exit.blk, Exit.jmp, if_true, if_false, reduceIte, Nat.reduceEqDiff, Nat.succ_ne_zero, Nat.zero_ne_one, Nat.one_ne_zero]
          replace hF := hG21 _ (F_some hF)
          exact ⟨(), hF, ok, WS.mk' .nil ok (.refl _)⟩
    · rintro ⟨⟩ s' hF ⟨ok, hws⟩
      refine WP_ws hws ?_
      clear hws s'
      refine CR (Ab rfl (Sn (WP_ret ?_)))
      with_reducible repeat first | apply Exit.sr | apply Exit.br | apply Exit.jr
      refine C_ret (fn := Tryz.f17) rfl (.tmp (v := .bool true) rfl .nil) ?_
      exact ⟨_, _, (.refl _), ok.wh, _, F_some hF, rfl, rfl⟩
theorem F_lecternref01_Name_ok {β : Type} {f : Bool → Option β} {G : β → Prop} {R : D → Heap → Prop} {p0 : LB} (h : Heap) (hF : OptP ((F_lecternref01_Name p0).bind f) G) (hk : ∀ r, F_lecternref01_Name p0 = some r → OptP (f r) G → R (.bool r) h) : CallsA Tryz.prog 17 [.str p0] h R := by
  obtain ⟨r0, hr, hF⟩ := F_bind hF
  refine (F_lecternref01_Name_w (G := fun r => r = r0) p0 h ⟨r0, hr, rfl⟩).mono ?_
  rintro _ _ ⟨r, rfl, rfl, rfl⟩
  exact hk _ hr hF
theorem F_lecternref02_written_w (p0 : LB) (p1 : LB) (p2 : List LB) {G : LB → Prop} (h : Heap) (hF : OptP (F_lecternref02_written p0 p1 p2) G) : CallsA Tryz.prog 35 [.str p0, .str p1, .agg (List.map D.str p2)] h fun d h' => ∃ r, G r ∧ d = .str r ∧ h' = h := by
  refine CallsA.ret (C_body Tryz.func35 rfl en_35 Tryz.ntmps35 rfl (fun ok => ?_))
  rw [F_lecternref02_written] at hF
  refine CR (S_box0 rfl rfl rfl rfl (S_a (v := .str nB) rfl (Sn (CR (S_a (v := .str nB) rfl (Sn ?_))))))
  refine C_join hF (fun (a57 : LB) s' => OK h [] ∧ WS s' ⟨mkSl 42 [(7, .str a57)], Hp h []⟩) (fun J58 hF => ?_) ?_
  · refine CR (Ai rfl (Sn (WP_block ?_)))
    refine C_loop (σ := LB × Int) hF (fun (v : LB × Int) s' => match v with | (a59, a60) => OK h [] ∧ WS s' ⟨mkSl 42 [(0, .str p0), (1, .str p1), (5, .iptr (List.map D.str p2)), (7, .str a59), (8, .I a60)], Hp h []⟩) ?_ ?_
    · exact ⟨ok, WS.mk' (.k (.k (.k (.k (.k .nil))))) ok (.refl _)⟩
    · rintro G61 hG62 rec63 ⟨a59, a60⟩ s' ih64 hF ⟨ok, hws⟩
      refine WP_ws hws ?_
      clear hws s'
      rw [F_lecternref02_written_l0] at hF
      refine C_seq (CR (Mi rfl (Ms rfl (S_lenS rfl ty_st_9 (S_bin rfl rfl (ev_lss ..) (Sn ?_))))))
      refine C_if (b := (decide (a60 < (p0.length : Int)))) rfl hF (fun hb65 hF => ?_) (fun hb65 hF => ?_)
      · refine WP_skip ?_
        refine C_join hF (fun (a92 : LB) s' => OK h [] ∧ WS s' ⟨mkSl 42 [(0, .str p0), (1, .str p1), (5, .iptr (List.map D.str p2)), (7, .str a92), (8, .I a60)], Hp h []⟩) (fun J93 hF => ?_) ?_
        · refine WP_block (CR (Ms rfl (Mi rfl (Mi rfl (S_bin rfl rfl (ev_add ..) (S_slS rfl ty_st_9 (bd_at rfl) (bd_at rfl) hF (fun x94 _ hF => S_a (v := .str _) rfl (Sn ?_))))))))
          refine C_join hF (fun (a107 : LB) s' => OK h [] ∧ WS s' ⟨mkSl 42 [(0, .str p0), (1, .str p1), (5, .iptr (List.map D.str p2)), (7, .str a59), (8, .I a60), (9, .str a107)], Hp h []⟩) (fun J108 hF => ?_) ?_
          · refine CR (Ai rfl (Sn (WP_block ?_)))
            refine C_loop (σ := LB × Int) hF (fun (v : LB × Int) s' => match v with | (a109, a110) => OK h [] ∧ WS s' ⟨mkSl 42 [(0, .str p0), (1, .str p1), (5, .iptr (List.map D.str p2)), (7, .str a59), (8, .I a60), (9, .str a109), (10, .I a110)], Hp h []⟩) ?_ ?_
            · exact ⟨ok, WS.mk' (.k (.k (.k (.k (.k (.k (.k .nil))))))) ok (.refl _)⟩
            · rintro G111 hG112 rec113 ⟨a109, a110⟩ s' ih114 hF ⟨ok, hws⟩
              refine WP_ws hws ?_
              clear hws s'
              rw [F_lecternref02_written_l1] at hF
              refine C_seq (CR (Mi rfl (Ms rfl (S_lenS rfl ty_st_9 (S_bin rfl rfl (ev_lss ..) (Sn ?_))))))
              refine C_if (b := (decide (a110 < (p1.length : Int)))) rfl hF (fun hb115 hF => ?_) (fun hb115 hF => ?_)
              · refine WP_skip ?_
                refine C_join hF (fun (a120 : LB) s' => OK h [] ∧ WS s' ⟨mkSl 42 [(0, .str p0), (1, .str p1), (5, .iptr (List.map D.str p2)), (7, .str a59), (8, .I a60), (9, .str a120), (10, .I a110)], Hp h []⟩) (fun J121 hF => ?_) ?_
                · refine WP_block (C_seq ?_)
                  refine C_drw (mdl []) (by kernel_rfl) (by kernel_rfl) ?_
                  refine Ms rfl (Mi rfl (S_ixS rfl rfl ty_st_9 hF (fun x122 _ hF => Ms rfl (Mi rfl (S_ixS rfl rfl ty_st_9 hF (fun x123 _ hF => S_bin rfl rfl (ev_eql ..) (Sn ?_)))))))
                  refine C_if (b := ((x122.toNat : Int) == (x123.toNat : Int))) rfl hF (fun hb124 hF => ?_) (fun hb124 hF => ?_)
                  · refine C_reg (mdl []) (Mi rfl (S_ixQN (g := D.str) rfl rfl ty_ar_88 ty_sz_9 hF (fun x125 _ hF => S_ldQ rfl (p_one ty_ag_9 ty_sz_9 rfl) (S_a (v := .str _) rfl (Sn ?_)))))
                    exact ⟨x125, hF, ok, WS.mk' (.k (.k (.k (.k (.k (.k (.k .nil))))))) ok (.refl _)⟩
                  · refine WP_skip ?_
                    exact ⟨a109, hF, ok, WS.mk' (.k (.k (.k (.k (.k (.k (.k .nil))))))) ok (.refl _)⟩
                · rintro a120 s' hF ⟨ok, hws⟩
                  refine WP_ws hws ?_
                  clear hws s'
                  refine C_reg (mdl []) (Mi rfl (S_bin rfl rfl (ev_add ..) (Ai rfl (Sn (ih114 (a120, (IntKind.wrap .i64 (a110 + (1 : Int)))) _ hF ?_)))))
                  exact ⟨ok, WS.mk' (.k (.k (.k (.k (.k (.k (.k .nil))))))) ok (.refl _)⟩
              · refine WP_exit ?_
                simp only [Exit.sel, Exit.blk, Exit.jmp, if_true, if_false, reduceIte, Nat.reduceEqDiff, Nat.succ_ne_zero, Nat.zero_ne_one, Nat.one_ne_zero]
                replace hF := hG112 _ (F_some hF)
                exact ⟨a109, hF, ok, WS.mk' (.k (.k (.k (.k (.k (.k .nil)))))) ok (.refl _)⟩
          · rintro a107 s' hF ⟨ok, hws⟩
            refine WP_ws hws ?_
            clear hws s'
            refine C_reg (mdl []) (Ms rfl (Ms rfl (S_cat rfl rfl hF (fun hF => S_a (v := .str _) rfl (Sn ?_)))))
            exact ⟨(a59 ++ a107), hF, ok, WS.mk' (.k (.k (.k (.k (.k .nil))))) ok (.refl _)⟩
        · rintro a92 s' hF ⟨ok, hws⟩
          refine WP_ws hws ?_
          clear hws s'
          refine C_reg (mdl []) (Mi rfl (S_bin rfl rfl (ev_add ..) (Ai rfl (Sn (ih64 (a92, (IntKind.wrap .i64 (a60 + (1 : Int)))) _ hF ?_)))))
          exact ⟨ok, WS.mk' (.k (.k (.k (.k (.k .nil))))) ok (.refl _)⟩
      · refine WP_exit ?_
        simp only [Exit.sel, Exit.blk, Exit.jmp, if_true, if_false, reduceIte, Nat.reduceEqDiff, Nat.succ_ne_zero, Nat.zero_ne_one, Nat.one_ne_zero]
        replace hF := hG62 _ (F_some hF)
        exact ⟨a59, hF, ok, WS.mk' (.k .nil) ok (.refl _)⟩
  · rintro a57 s' hF ⟨ok, hws⟩
    refine WP_ws hws ?_
    clear hws s'
    refine CR (Ms rfl (S_a (v := .str _) rfl (Sn (WP_ret ?_))))
    with_reducible repeat first | apply Exit.sr | apply Exit.br | apply Exit.jr
    refine C_ret (fn := Tryz.f35) rfl (.tmp (v := .str a57) rfl .nil) ?_
    exact ⟨_, _, (.refl _), ok.wh, _, F_some hF, rfl, rfl⟩
theorem F_lecternref02_written_ok {β : Type} {f : LB → Option β} {G : β → Prop} {R : D → Heap → Prop} {p0 : LB} {p1 : LB} {p2 : List LB} (h : Heap) (hF : OptP ((F_lecternref02_written p0 p1 p2).bind f) G) (hk : ∀ r, F_lecternref02_written p0 p1 p2 = some r → OptP (f r) G → R (.str r) h) : CallsA Tryz.prog 35 [.str p0, .str p1, .agg (List.map D.str p2)] h R := by
  obtain ⟨r0, hr, hF⟩ := F_bind hF
  refine (F_lecternref02_written_w (G := fun r => r = r0) p0 p1 p2 h ⟨r0, hr, rfl⟩).mono ?_
  rintro _ _ ⟨r, rfl, rfl, rfl⟩
  exact hk _ hr hF
theorem F_lecternref02_Quote_w (p0 : LB) {G : LB → Prop} (h : Heap) (hF : OptP (F_lecternref02_Quote p0) G) : CallsA Tryz.prog 18 [.str p0] h fun d h' => ∃ r, G r ∧ d = .str r ∧ h' = h := by
  refine CallsA.ret (C_body Tryz.func18 rfl en_18 Tryz.ntmps18 rfl (fun ok => ?_))
  rw [F_lecternref02_Quote] at hF
  refine CR (S_a (v := .str nB) rfl (Sn (CR (Ms rfl (S_bld (v := .agg (List.map D.str ([([38, 97, 109, 112, 59] : LB), ([38, 108, 116, 59] : LB), ([38, 113, 117, 111, 116, 59] : LB), ([38, 35, 57, 59] : LB), ([38, 35, 49, 48, 59] : LB), ([38, 35, 49, 51, 59] : LB)] : List LB))) (b_arr ty_zc_88 ty_pl_88 ty_ar_88 ty_sz_9 rfl) (S_call (F_lecternref02_written_ok _ hF fun x1 _ hF => (S_a (v := .str _) rfl (Sn (WP_ret ?_)))) (.refl _)))))))
  with_reducible repeat first | apply Exit.sr | apply Exit.br | apply Exit.jr
  refine C_ret (fn := Tryz.f18) rfl (.tmp (v := .str x1) rfl .nil) ?_
  exact ⟨_, _, (.refl _), ok.wh, _, F_some hF, rfl, rfl⟩
theorem F_lecternref02_Quote_ok {β : Type} {f : LB → Option β} {G : β → Prop} {R : D → Heap → Prop} {p0 : LB} (h : Heap) (hF : OptP ((F_lecternref02_Quote p0).bind f) G) (hk : ∀ r, F_lecternref02_Quote p0 = some r → OptP (f r) G → R (.str r) h) : CallsA Tryz.prog 18 [.str p0] h R := by
  obtain ⟨r0, hr, hF⟩ := F_bind hF
  refine (F_lecternref02_Quote_w (G := fun r => r = r0) p0 h ⟨r0, hr, rfl⟩).mono ?_
  rintro _ _ ⟨r, rfl, rfl, rfl⟩
  exact hk _ hr hF
theorem F_lecternref04_SameAttrs_w (p0 : List T_api_Attr) (p1 : List T_api_Attr) {G : Bool → Prop} (h : Heap) (hF : OptP (F_lecternref04_SameAttrs p0 p1) G) : CallsA Tryz.prog 31 [.sl 3 (List.map c_T_api_Attr p0) 0, .sl 3 (List.map c_T_api_Attr p1) 0] h fun d h' => ∃ r, G r ∧ d = .bool r ∧ h' = h := by
  refine CallsA.ret (C_body Tryz.func31 rfl en_31 Tryz.ntmps31 rfl (fun ok => ?_))
  rw [F_lecternref04_SameAttrs] at hF
  refine CR (Ab rfl (Sn (C_seq (CR (Ml rfl (S_lenL rfl ty_sl_27 (Ml rfl (S_lenL rfl ty_sl_27 (S_bin rfl rfl (ev_neq ..) (Sn ?_))))))))))
  refine C_if (b := ((p0.length : Int) != (p1.length : Int))) rfl hF (fun hb1 hF => ?_) (fun hb1 hF => ?_)
  · refine CR (Ab rfl (Sn (WP_ret ?_)))
    with_reducible repeat first | apply Exit.sr | apply Exit.br | apply Exit.jr
    refine C_ret (fn := Tryz.f31) rfl (.tmp (v := .bool false) rfl .nil) ?_
    exact ⟨_, _, (.refl _), ok.wh, _, F_some hF, rfl, rfl⟩
  · refine WP_skip ?_
    refine C_join hF (fun (_ : Unit) s' => OK h [] ∧ WS s' ⟨mkSl 26 [], Hp h []⟩) (fun J7 hF => ?_) ?_
    · refine CR (Ml rfl (S_lenL rfl ty_sl_27 (Mi rfl (Sn (WP_block ?_)))))
      refine C_loop (σ := Int) hF (fun (a8 : Int) s' => OK h [] ∧ WS s' ⟨mkSl 26 [(0, .sl 3 (List.map c_T_api_Attr p0) 0), (1, .sl 3 (List.map c_T_api_Attr p1) 0), (12, .I (p0.length : Int)), (13, .I a8)], Hp h []⟩) ?_ ?_
      · exact ⟨ok, WS.mk' (.k (.k (.k (.k .nil)))) ok (.refl _)⟩
      · rintro G9 hG10 rec11 a8 s' ih12 hF ⟨ok, hws⟩
        refine WP_ws hws ?_
        clear hws s'
        rw [F_lecternref04_SameAttrs_l0] at hF
        refine CR (S_bin rfl rfl (ev_lss ..) (Sn (C_seq ?_)))
        refine C_if (b := (decide (a8 < (p0.length : Int)))) rfl hF (fun hb13 hF => ?_) (fun hb13 hF => ?_)
        · refine WP_skip (C_seq (WP_block (CR (Mi rfl (Ai rfl (Sn (C_seq ?_)))))))
          refine C_drw (mdl [(19, 3), (23, 3)]) (by kernel_rfl) (by kernel_rfl) ?_
          refine Ml rfl (Mi rfl (S_ix rfl rfl ty_sl_27 ty_sz_110 hF (fun x14 _ hF => S_ldQ rfl (p_agg (vs := c_T_api_Attr x14) ty_ag_110 ty_sz_110 rfl rfl) (Ml rfl (Mi rfl (S_ix rfl rfl ty_sl_27 ty_sz_110 hF (fun x15 _ hF => S_ldQ rfl (p_agg (vs := c_T_api_Attr x15) ty_ag_110 ty_sz_110 rfl rfl) ?_)))))))
          refine S_bin rfl rfl (e_aggn (b := (((x14.Name.URI == x15.Name.URI) && ((x14.Name.Local == x15.Name.Local) && true)) && ((x14.Value == x15.Value) && true))) ty_qg_110 ty_sf_110 (by simp only [c_T_api_Attr, ev_eqF_cons, ev_eqF_nil, ev_part, ty_sf_110, ty_qg_110, ty_ag_26, ty_sz_26, ty_sf_26, ty_ag_9, ty_sz_9, ty_st_9, ty_ag_9, ty_sz_9, ty_st_9, ty_ag_9, ty_sz_9, ty_st_9, ev_eq_int, ev_eq_str, ev_eq_bool, ev_eq_agg, ev_eq_int2, ev_eq_str2, ev_eq_bool2, List.drop_zero, List.drop_succ_cons, List.length_cons, List.length_nil, List.take_succ_cons, List.take_zero, Option.isSome_some, if_true, Option.bind_some, Option.map_some, Nat.reduceAdd, Nat.reduceLeDiff])) ?_
          refine Sn ?_
          refine C_if (b := (!(((x14.Name.URI == x15.Name.URI) && ((x14.Name.Local == x15.Name.Local) && true)) && ((x14.Value == x15.Value) && true)))) rfl hF (fun hb16 hF => ?_) (fun hb16 hF => ?_)
          · refine CR (Ab rfl (Sn (WP_ret ?_)))
            replace hF := hG10 _ (F_some hF)
            with_reducible repeat first | apply Exit.sr | apply Exit.br | apply Exit.jr
            refine C_ret (fn := Tryz.f31) rfl (.tmp (v := .bool false) rfl .nil) ?_
            exact ⟨_, _, (.refl _), ok.wh, _, F_some hF, rfl, rfl⟩
          · refine WP_skip (C_reg (mdl []) (S_bin rfl rfl (ev_add ..) (Mi rfl (Sn (ih12 (IntKind.wrap .i64 (a8 + (1 : Int))) _ hF ?_)))))
            exact ⟨ok, WS.mk' (.k (.k (.k (.k .nil)))) ok (.refl _)⟩
        · refine WP_exit ?_
          simp only [Exit.sel, Exit.blk, Exit.jmp, if_true, if_false, reduceIte, Nat.reduceEqDiff, Nat.succ_ne_zero, Nat.zero_ne_one, Nat.one_ne_zero]
          replace hF := hG10 _ (F_some hF)
          exact ⟨(), hF, ok, WS.mk' .nil ok (.refl _)⟩
    · rintro ⟨⟩ s' hF ⟨ok, hws⟩
      refine WP_ws hws ?_
      clear hws s'
      refine CR (Ab rfl (Sn (WP_ret ?_)))
      with_reducible repeat first | apply Exit.sr | apply Exit.br | apply Exit.jr
      refine C_ret (fn := Tryz.f31) rfl (.tmp (v := .bool true) rfl .nil) ?_
      exact ⟨_, _, (.refl _), ok.wh, _, F_some hF, rfl, rfl⟩
theorem F_lecternref04_SameAttrs_ok {β : Type} {f : Bool → Option β} {G : β → Prop} {R : D → Heap → Prop} {p0 : List T_api_Attr} {p1 : List T_api_Attr} (h : Heap) (hF : OptP ((F_lecternref04_SameAttrs p0 p1).bind f) G) (hk : ∀ r, F_lecternref04_SameAttrs p0 p1 = some r → OptP (f r) G → R (.bool r) h) : CallsA Tryz.prog 31 [.sl 3 (List.map c_T_api_Attr p0) 0, .sl 3 (List.map c_T_api_Attr p1) 0] h R := by
  obtain ⟨r0, hr, hF⟩ := F_bind hF
  refine (F_lecternref04_SameAttrs_w (G := fun r => r = r0) p0 p1 h ⟨r0, hr, rfl⟩).mono ?_
  rintro _ _ ⟨r, rfl, rfl, rfl⟩
  exact hk _ hr hF
theorem F_lecternref05_Same_i : ∀ (N : Nat) (v : T_api_Node × T_api_Node) (G : Bool → Prop) (h : Heap), OptP (iter F_lecternref05_Same_b N v) G → CallsA Tryz.prog 13 [.agg (c_T_api_Node v.1), .agg (c_T_api_Node v.2)] h fun d h' => ∃ r, G r ∧ d = .bool r ∧ h' = h := by
  intro N
  induction N with
  | zero => intro v G h hF; exact F_none hF
  | succ N ih0 =>
  rintro ⟨p0, p1⟩ G h hF
  show CallsA Tryz.prog 13 [.agg (c_T_api_Node p0), .agg (c_T_api_Node p1)] h fun d h' => ∃ r, G r ∧ d = .bool r ∧ h' = h
  replace hF : OptP (F_lecternref05_Same_b (iter F_lecternref05_Same_b N) (p0, p1)) G := hF
  refine CallsA.ret (C_body Tryz.func13 rfl en_13 Tryz.ntmps13 rfl (fun ok => ?_))
  rw [F_lecternref05_Same_b] at hF
  refine CR (S_box0 (v := .agg (c_T_api_Node p0)) (cs := c_T_api_Node p0) rfl rfl rfl rfl (S_box0 (v := .agg (c_T_api_Node p1)) (cs := c_T_api_Node p1) rfl rfl rfl rfl (Ab rfl (Sn (C_seq (C_seq (C_reg (mdl []) ?_)))))))
  refine S_faQ rfl ty_fd_30_0 ty_sz_3 (by rw [c_T_api_Node_eq]; rfl) ?_
  refine S_ldQ rfl (p_one ty_ag_3 ty_sz_3 (congrArg (List.drop 0) (c_T_api_Node_eq p0))) ?_
  refine S_faQ rfl ty_fd_30_0 ty_sz_3 (by rw [c_T_api_Node_eq]; rfl) ?_
  refine S_ldQ rfl (p_one ty_ag_3 ty_sz_3 (congrArg (List.drop 0) (c_T_api_Node_eq p1))) (S_bin rfl rfl (ev_neq ..) (Mb rfl ?_))
  refine S_two (b := (p0.Kind != p1.Kind)) 6 17 (.bool ((p0.Kind != p1.Kind) || (!((p0.Name.URI == p1.Name.URI) && ((p0.Name.Local == p1.Name.Local) && true))))) (fun hb1 => ?_) (fun hb1 => ?_) ?_
  · refine So rfl rfl hb1 (So rfl rfl hb1 (So rfl rfl hb1 (So rfl rfl hb1 (So rfl rfl hb1 (S_pickT (v := .bool _) rfl hb1 rfl (Sn (.hd (or_t hb1) ?_)))))))
    repeat first | with_reducible exact .refl _ | refine .add ?_ rfl | exact .refl _
  · refine Sx rfl rfl hb1 ?_
    refine S_faQ rfl ty_fd_30_1 ty_sz_26 (by rw [c_T_api_Node_eq]; rfl) ?_
    refine Sn (Sx rfl rfl hb1 ?_)
    refine S_ldQ rfl (p_agg (vs := c_T_api_Name p0.Name) ty_ag_26 ty_sz_26 (by rw [c_T_api_Node_eq]; rfl) (by rw [c_T_api_Node_eq]; rfl)) ?_
    refine Sn (Sx rfl rfl hb1 ?_)
    refine S_faQ rfl ty_fd_30_1 ty_sz_26 (by rw [c_T_api_Node_eq]; rfl) ?_
    refine Sn (Sx rfl rfl hb1 ?_)
    refine S_ldQ rfl (p_agg (vs := c_T_api_Name p1.Name) ty_ag_26 ty_sz_26 (by rw [c_T_api_Node_eq]; rfl) (by rw [c_T_api_Node_eq]; rfl)) ?_
    refine Sn (Sx rfl rfl hb1 ?_)
    refine S_bin rfl rfl (e_aggn (b := ((p0.Name.URI == p1.Name.URI) && ((p0.Name.Local == p1.Name.Local) && true))) ty_qg_26 ty_sf_26 (by simp only [c_T_api_Name, ev_eqF_cons, ev_eqF_nil, ev_part, ty_sf_26, ty_qg_26, ty_ag_9, ty_sz_9, ty_st_9, ty_ag_9, ty_sz_9, ty_st_9, ev_eq_int, ev_eq_str, ev_eq_bool, ev_eq_agg, ev_eq_int2, ev_eq_str2, ev_eq_bool2, List.drop_zero, List.drop_succ_cons, List.length_cons, List.length_nil, List.take_succ_cons, List.take_zero, Option.isSome_some, if_true, Option.bind_some, Option.map_some, Nat.reduceAdd, Nat.reduceLeDiff])) ?_
    refine Sn (S_pickF (v := .bool _) rfl hb1 rfl (Sn (.hd (or_f hb1) ?_)))
    repeat first | with_reducible exact .refl _ | refine .add ?_ rfl | exact .refl _
  refine Mb rfl ?_
  refine S_two (b := ((p0.Kind != p1.Kind) || (!((p0.Name.URI == p1.Name.URI) && ((p0.Name.Local == p1.Name.Local) && true))))) 6 24 (.bool (((p0.Kind != p1.Kind) || (!((p0.Name.URI == p1.Name.URI) && ((p0.Name.Local == p1.Name.Local) && true)))) || (!(p0.Text == p1.Text)))) (fun hb2 => ?_) (fun hb2 => ?_) ?_
  · refine So rfl rfl hb2 (So rfl rfl hb2 (So rfl rfl hb2 (So rfl rfl hb2 (So rfl rfl hb2 (S_pickT (v := .bool _) rfl hb2 rfl (Sn (.hd (or_t hb2) ?_)))))))
    repeat first | with_reducible exact .refl _ | refine .add ?_ rfl | exact .refl _
  · refine Sx rfl rfl hb2 ?_
    refine S_faQ rfl ty_fd_30_4 ty_sz_9 (by rw [c_T_api_Node_eq]; rfl) ?_
    refine Sn (Sx rfl rfl hb2 (S_ldQ rfl (p_one ty_ag_9 ty_sz_9 (congrArg (List.drop 5) (c_T_api_Node_eq p0))) (Sn (Sx rfl rfl hb2 ?_))))
    refine S_faQ rfl ty_fd_30_4 ty_sz_9 (by rw [c_T_api_Node_eq]; rfl) ?_
    refine Sn (Sx rfl rfl hb2 (S_ldQ rfl (p_one ty_ag_9 ty_sz_9 (congrArg (List.drop 5) (c_T_api_Node_eq p1))) (Sn (Sx rfl rfl hb2 (S_bin rfl rfl e_sneq (Sn (S_pickF (v := .bool _) rfl hb2 rfl (Sn (.hd (or_f hb2) ?_)))))))))
    repeat first | with_reducible exact .refl _ | refine .add ?_ rfl | exact .refl _
  refine Mb rfl ?_
  refine S_twoJ 7 32 hF (fun J4 hb3 hF => ?_) (fun J4 hb3 hF => ?_) (fun v5 hF => ?_)
  · refine So rfl rfl hb3 (So rfl rfl hb3 (So rfl rfl hb3 (So rfl rfl hb3 (So rfl rfl hb3 (So rfl rfl hb3 (S_pickT (v := .bool _) rfl hb3 rfl (Sn ?_)))))))
    refine ⟨_, hF, .hd (.refl _) ?_⟩
    repeat first | with_reducible exact .refl _ | refine .add ?_ rfl | exact .refl _
  · refine Sx rfl rfl hb3 ?_
    refine S_faQ rfl ty_fd_30_2 ty_sz_27 (by rw [c_T_api_Node_eq]; rfl) ?_
    refine Sn (Sx rfl rfl hb3 (S_ldQ rfl (p_one ty_ag_27 ty_sz_27 (congrArg (List.drop 3) (c_T_api_Node_eq p0))) (Sn (Sx rfl rfl hb3 ?_))))
    refine S_faQ rfl ty_fd_30_2 ty_sz_27 (by rw [c_T_api_Node_eq]; rfl) ?_
    refine Sn (Sx rfl rfl hb3 (S_ldQ rfl (p_one ty_ag_27 ty_sz_27 (congrArg (List.drop 3) (c_T_api_Node_eq p1))) (Sn (Sx rfl rfl hb3 (S_call (F_lecternref04_SameAttrs_ok _ hF fun x6 _ hF => (Sn (Sx rfl rfl hb3 (S_un rfl (ev_not _) (Sn (S_pickF (v := .bool _) rfl hb3 rfl (Sn ?_))))))) (.refl _))))))
    refine ⟨_, hF, .hd (.refl _) ?_⟩
    repeat first | with_reducible exact .refl _ | refine .add ?_ rfl | exact .refl _
  · refine Mb rfl ?_
    refine S_two (b := v5) 8 41 (.bool (v5 || ((p0.Kids.length : Int) != (p1.Kids.length : Int)))) (fun hb7 => ?_) (fun hb7 => ?_) ?_
    · refine So rfl rfl hb7 (So rfl rfl hb7 (So rfl rfl hb7 (So rfl rfl hb7 (So rfl rfl hb7 (So rfl rfl hb7 (So rfl rfl hb7 (S_pickT (v := .bool _) rfl hb7 rfl (Sn (.hd (or_t hb7) ?_)))))))))
      repeat first | with_reducible exact .refl _ | refine .add ?_ rfl | exact .refl _
    · refine Sx rfl rfl hb7 ?_
      refine S_faQ rfl ty_fd_30_3 ty_sz_28 (by rw [c_T_api_Node_eq]; rfl) ?_
      refine Sn (Sx rfl rfl hb7 (S_ldQ rfl (p_one ty_ag_28 ty_sz_28 (congrArg (List.drop 4) (c_T_api_Node_eq p0))) (Sn (Sx rfl rfl hb7 (S_lenL rfl ty_sl_28 (Sn (Sx rfl rfl hb7 ?_)))))))
      refine S_faQ rfl ty_fd_30_3 ty_sz_28 (by rw [c_T_api_Node_eq]; rfl) ?_
      refine Sn (Sx rfl rfl hb7 (S_ldQ rfl (p_one ty_ag_28 ty_sz_28 (congrArg (List.drop 4) (c_T_api_Node_eq p1))) (Sn (Sx rfl rfl hb7 (S_lenL rfl ty_sl_28 (Sn (Sx rfl rfl hb7 (S_bin rfl rfl (ev_neq ..) (Sn (S_pickF (v := .bool _) rfl hb7 rfl (Sn (.hd (or_f hb7) ?_))))))))))))
      repeat first | with_reducible exact .refl _ | refine .add ?_ rfl | exact .refl _
    refine Sn ?_
    refine C_if (b := (v5 || ((p0.Kids.length : Int) != (p1.Kids.length : Int)))) rfl hF (fun hb8 hF => ?_) (fun hb8 hF => ?_)
    · refine CR (Ab rfl (Sn (WP_ret ?_)))
      with_reducible repeat first | apply Exit.sr | apply Exit.br | apply Exit.jr
      refine C_ret (fn := Tryz.f13) rfl (.tmp (v := .bool false) rfl .nil) ?_
      exact ⟨_, _, (.refl _), ok.wh, _, F_some hF, rfl, rfl⟩
    · refine WP_skip ?_
      refine C_join hF (fun (_ : Unit) s' => OK h [] ∧ WS s' ⟨mkSl 61 [], Hp h []⟩) (fun J15 hF => ?_) ?_
      · refine C_seq (C_reg (mdl []) ?_)
        refine S_faQ rfl ty_fd_30_3 ty_sz_28 (by rw [c_T_api_Node_eq]; rfl) ?_
        refine S_ldQ rfl (p_one ty_ag_28 ty_sz_28 (congrArg (List.drop 4) (c_T_api_Node_eq p0))) (S_lenL rfl ty_sl_28 (Mi rfl (Sn (WP_block ?_))))
        refine C_loop (σ := Int) hF (fun (a16 : Int) s' => OK h [] ∧ WS s' ⟨mkSl 61 [(2, .iptr (c_T_api_Node p0)), (3, .iptr (c_T_api_Node p1)), (44, .I (p0.Kids.length : Int)), (45, .I a16)], Hp h []⟩) ?_ ?_
        · exact ⟨ok, WS.mk' (.k (.k (.k (.k .nil)))) ok (.refl _)⟩
        · rintro G17 hG18 rec19 a16 s' ih20 hF ⟨ok, hws⟩
          refine WP_ws hws ?_
          clear hws s'
          rw [F_lecternref05_Same_l0] at hF
          refine CR (S_bin rfl rfl (ev_lss ..) (Sn (C_seq ?_)))
          refine C_if (b := (decide (a16 < (p0.Kids.length : Int)))) rfl hF (fun hb21 hF => ?_) (fun hb21 hF => ?_)
          · refine WP_skip (C_seq (WP_block (CR (Mi rfl (Ai rfl (Sn (C_seq ?_)))))))
            refine C_drw (mdl [(49, 3), (52, 3), (54, 3), (57, 3)]) (by kernel_rfl) (by kernel_rfl) ?_
            refine S_faQ rfl ty_fd_30_3 ty_sz_28 (by rw [c_T_api_Node_eq]; rfl) ?_
            refine S_ldQ rfl (p_one ty_ag_28 ty_sz_28 (congrArg (List.drop 4) (c_T_api_Node_eq p0))) (Mi rfl (S_ix rfl rfl ty_sl_28 ty_sz_30 hF (fun x22 _ hF => ?_)))
            refine S_ldQ rfl (p_agg (vs := c_T_api_Node x22) ty_ag_30 ty_sz_30 (by rw [c_T_api_Node_eq]; rfl) (by rw [c_T_api_Node_eq]; rfl)) ?_
            refine S_faQ rfl ty_fd_30_3 ty_sz_28 (by rw [c_T_api_Node_eq]; rfl) ?_
            refine S_ldQ rfl (p_one ty_ag_28 ty_sz_28 (congrArg (List.drop 4) (c_T_api_Node_eq p1))) (Mi rfl (S_ix rfl rfl ty_sl_28 ty_sz_30 hF (fun x23 _ hF => ?_)))
            refine S_ldQ rfl (p_agg (vs := c_T_api_Node x23) ty_ag_30 ty_sz_30 (by rw [c_T_api_Node_eq]; rfl) (by rw [c_T_api_Node_eq]; rfl)) ?_
            refine S_call (ok_of (enc := fun r => .bool r) (fun G h hF => ih0 (x22, x23) G h hF) _ hF fun x24 _ hF => (S_un rfl (ev_not _) (Sn ?_))) (.refl _)
            refine C_if (b := (!x24)) rfl hF (fun hb25 hF => ?_) (fun hb25 hF => ?_)
            · refine CR (Ab rfl (Sn (WP_ret ?_)))
              replace hF := hG18 _ (F_some hF)
              with_reducible repeat first | apply Exit.sr | apply Exit.br | apply Exit.jr
              refine C_ret (fn := Tryz.f13) rfl (.tmp (v := .bool false) rfl .nil) ?_
              exact ⟨_, _, (.refl _), ok.wh, _, F_some hF, rfl, rfl⟩
            · refine WP_skip (C_reg (mdl []) (S_bin rfl rfl (ev_add ..) (Mi rfl (Sn (ih20 (IntKind.wrap .i64 (a16 + (1 : Int))) _ hF ?_)))))
              exact ⟨ok, WS.mk' (.k (.k (.k (.k .nil)))) ok (.refl _)⟩
          · refine WP_exit ?_
            simp only [Exit.sel, Exit.blk, Exit.jmp, if_true, if_false, reduceIte, Nat.reduceEqDiff, Nat.succ_ne_zero, Nat.zero_ne_one, Nat.one_ne_zero]
            replace hF := hG18 _ (F_some hF)
            exact ⟨(), hF, ok, WS.mk' .nil ok (.refl _)⟩
      · rintro ⟨⟩ s' hF ⟨ok, hws⟩
        refine WP_ws hws ?_
        clear hws s'
        refine CR (Ab rfl (Sn (WP_ret ?_)))
        with_reducible repeat first | apply Exit.sr | apply Exit.br | apply Exit.jr
        refine C_ret (fn := Tryz.f13) rfl (.tmp (v := .bool true) rfl .nil) ?_
        exact ⟨_, _, (.refl _), ok.wh, _, F_some hF, rfl, rfl⟩
theorem F_lecternref05_Same_w (p0 : T_api_Node) (p1 : T_api_Node) {G : Bool → Prop} (h : Heap) (hF : OptP (F_lecternref05_Same p0 p1) G) : CallsA Tryz.prog 13 [.agg (c_T_api_Node p0), .agg (c_T_api_Node p1)] h fun d h' => ∃ r, G r ∧ d = .bool r ∧ h' = h := F_lecternref05_Same_i FUEL (p0, p1) G h hF
theorem F_lecternref05_Same_ok {β : Type} {f : Bool → Option β} {G : β → Prop} {R : D → Heap → Prop} {p0 : T_api_Node} {p1 : T_api_Node} (h : Heap) (hF : OptP ((F_lecternref05_Same p0 p1).bind f) G) (hk : ∀ r, F_lecternref05_Same p0 p1 = some r → OptP (f r) G → R (.bool r) h) : CallsA Tryz.prog 13 [.agg (c_T_api_Node p0), .agg (c_T_api_Node p1)] h R := by
  obtain ⟨r0, hr, hF⟩ := F_bind hF
  refine (F_lecternref05_Same_w (G := fun r => r = r0) p0 p1 h ⟨r0, hr, rfl⟩).mono ?_
  rintro _ _ ⟨r, rfl, rfl, rfl⟩
  exact hk _ hr hF
theorem F_lecternlaw06_ParsePrefixes_w (p0 : LB) (p1 : LB) (p2 : LB) (p3 : LB) {G : Bool → Prop} (h : Heap) (hF : OptP (F_lecternlaw06_ParsePrefixes p0 p1 p2 p3) G) : CallsA Tryz.prog 5 [.str p0, .str p1, .str p2, .str p3] h fun d h' => ∃ r, G r ∧ d = .bool r := by
  refine CallsA.ret (C_body Tryz.func5 rfl en_5 Tryz.ntmps5 rfl (fun ok => ?_))
  rw [F_lecternlaw06_ParsePrefixes] at hF
  refine CR (Ab rfl (Sn (C_seq (CR (S_call (F_lecternlaw06_awake_ok _ hF fun x1 _ hF => (S_un rfl (ev_not _) (Sn ?_))) (.nil))))))
  refine C_if (b := (!x1)) rfl hF (fun hb2 hF => ?_) (fun hb2 hF => ?_)
  · refine CR (Ab rfl (Sn (WP_ret ?_)))
    with_reducible repeat first | apply Exit.sr | apply Exit.br | apply Exit.jr
    refine C_ret (fn := Tryz.f5) rfl (.tmp (v := .bool false) rfl .nil) ?_
    exact ⟨_, _, (.refl _), WH.refl _, _, F_some hF, rfl⟩
  · refine WP_skip (C_seq (CR (Ms rfl (S_call (F_lecternref01_Name_ok _ hF fun x3 _ hF => (S_un rfl (ev_not _) (Mb rfl ?_))) (.refl _)))))
    refine S_twoJ 4 28 hF (fun J5 hb4 hF => ?_) (fun J5 hb4 hF => ?_) (fun v6 hF => ?_)
    · refine So rfl rfl hb4 (So rfl rfl hb4 (So rfl rfl hb4 (S_pickT (v := .bool _) rfl hb4 rfl (Sn ?_))))
      refine ⟨_, hF, .hd (.refl _) ?_⟩
      repeat first | with_reducible exact .refl _ | refine .add ?_ rfl | exact .refl _
    · refine Sx rfl rfl hb4 (Ms rfl (Sn (Sx rfl rfl hb4 (S_call (F_lecternref01_Name_ok _ hF fun x7 _ hF => (Sn (Sx rfl rfl hb4 (S_un rfl (ev_not _) (Sn (S_pickF (v := .bool _) rfl hb4 rfl (Sn ?_))))))) (.refl _)))))
      refine ⟨_, hF, .hd (.refl _) ?_⟩
      repeat first | with_reducible exact .refl _ | refine .add ?_ rfl | exact .refl _
    · refine Mb rfl ?_
      refine S_twoJ 4 33 hF (fun J9 hb8 hF => ?_) (fun J9 hb8 hF => ?_) (fun v10 hF => ?_)
      · refine So rfl rfl hb8 (So rfl rfl hb8 (So rfl rfl hb8 (S_pickT (v := .bool _) rfl hb8 rfl (Sn ?_))))
        refine ⟨_, hF, .hd (.refl _) ?_⟩
        repeat first | with_reducible exact .refl _ | refine .add ?_ rfl | exact .refl _
      · refine Sx rfl rfl hb8 (Ms rfl (Sn (Sx rfl rfl hb8 (S_call (F_lecternref01_Name_ok _ hF fun x11 _ hF => (Sn (Sx rfl rfl hb8 (S_un rfl (ev_not _) (Sn (S_pickF (v := .bool _) rfl hb8 rfl (Sn ?_))))))) (.refl _)))))
        refine ⟨_, hF, .hd (.refl _) ?_⟩
        repeat first | with_reducible exact .refl _ | refine .add ?_ rfl | exact .refl _
      · refine Mb rfl ?_
        refine S_two (b := v10) 3 37 (.bool (v10 || (p0 == ([120, 109, 108] : LB)))) (fun hb12 => ?_) (fun hb12 => ?_) ?_
        · refine So rfl rfl hb12 (So rfl rfl hb12 (S_pickT (v := .bool _) rfl hb12 rfl (Sn (.hd (or_t hb12) ?_))))
          repeat first | with_reducible exact .refl _ | refine .add ?_ rfl | exact .refl _
        · refine Sx rfl rfl hb12 (Ms rfl (Sn (Sx rfl rfl hb12 (S_bin rfl rfl e_seql (Sn (S_pickF (v := .bool _) rfl hb12 rfl (Sn (.hd (or_f hb12) ?_))))))))
          repeat first | with_reducible exact .refl _ | refine .add ?_ rfl | exact .refl _
        refine Mb rfl ?_
        refine S_two (b := (v10 || (p0 == ([120, 109, 108] : LB)))) 3 41 (.bool ((v10 || (p0 == ([120, 109, 108] : LB))) || (p1 == ([120, 109, 108] : LB)))) (fun hb13 => ?_) (fun hb13 => ?_) ?_
        · refine So rfl rfl hb13 (So rfl rfl hb13 (S_pickT (v := .bool _) rfl hb13 rfl (Sn (.hd (or_t hb13) ?_))))
          repeat first | with_reducible exact .refl _ | refine .add ?_ rfl | exact .refl _
        · refine Sx rfl rfl hb13 (Ms rfl (Sn (Sx rfl rfl hb13 (S_bin rfl rfl e_seql (Sn (S_pickF (v := .bool _) rfl hb13 rfl (Sn (.hd (or_f hb13) ?_))))))))
          repeat first | with_reducible exact .refl _ | refine .add ?_ rfl | exact .refl _
        refine Mb rfl ?_
        refine S_two (b := ((v10 || (p0 == ([120, 109, 108] : LB))) || (p1 == ([120, 109, 108] : LB)))) 3 45 (.bool (((v10 || (p0 == ([120, 109, 108] : LB))) || (p1 == ([120, 109, 108] : LB))) || (p0 == ([120, 109, 108, 110, 115] : LB)))) (fun hb14 => ?_) (fun hb14 => ?_) ?_
        · refine So rfl rfl hb14 (So rfl rfl hb14 (S_pickT (v := .bool _) rfl hb14 rfl (Sn (.hd (or_t hb14) ?_))))
          repeat first | with_reducible exact .refl _ | refine .add ?_ rfl | exact .refl _
        · refine Sx rfl rfl hb14 (Ms rfl (Sn (Sx rfl rfl hb14 (S_bin rfl rfl e_seql (Sn (S_pickF (v := .bool _) rfl hb14 rfl (Sn (.hd (or_f hb14) ?_))))))))
          repeat first | with_reducible exact .refl _ | refine .add ?_ rfl | exact .refl _
        refine Mb rfl ?_
        refine S_two (b := (((v10 || (p0 == ([120, 109, 108] : LB))) || (p1 == ([120, 109, 108] : LB))) || (p0 == ([120, 109, 108, 110, 115] : LB)))) 3 49 (.bool ((((v10 || (p0 == ([120, 109, 108] : LB))) || (p1 == ([120, 109, 108] : LB))) || (p0 == ([120, 109, 108, 110, 115] : LB))) || (p1 == ([120, 109, 108, 110, 115] : LB)))) (fun hb15 => ?_) (fun hb15 => ?_) ?_
        · refine So rfl rfl hb15 (So rfl rfl hb15 (S_pickT (v := .bool _) rfl hb15 rfl (Sn (.hd (or_t hb15) ?_))))
          repeat first | with_reducible exact .refl _ | refine .add ?_ rfl | exact .refl _
        · refine Sx rfl rfl hb15 (Ms rfl (Sn (Sx rfl rfl hb15 (S_bin rfl rfl e_seql (Sn (S_pickF (v := .bool _) rfl hb15 rfl (Sn (.hd (or_f hb15) ?_))))))))
          repeat first | with_reducible exact .refl _ | refine .add ?_ rfl | exact .refl _
        refine Sn ?_
        refine C_if (b := ((((v10 || (p0 == ([120, 109, 108] : LB))) || (p1 == ([120, 109, 108] : LB))) || (p0 == ([120, 109, 108, 110, 115] : LB))) || (p1 == ([120, 109, 108, 110, 115] : LB)))) rfl hF (fun hb16 hF => ?_) (fun hb16 hF => ?_)
        · refine CR (Ab rfl (Sn (WP_ret ?_)))
          with_reducible repeat first | apply Exit.sr | apply Exit.br | apply Exit.jr
          refine C_ret (fn := Tryz.f5) rfl (.tmp (v := .bool true) rfl .nil) ?_
          exact ⟨_, _, (.refl _), WH.refl _, _, F_some hF, rfl⟩
        · refine WP_skip (CR (Ms rfl (S_call (F_lecternref02_Quote_ok _ hF fun x17 _ hF => (S_a (v := .str _) rfl (Sn (C_seq (C_reg (mdl [(10, 1)]) (Ms rfl (S_cat rfl rfl hF (fun hF => S_cat rfl rfl hF (fun hF => Ms rfl (S_cat rfl rfl hF (fun hF => S_cat rfl rfl hF (fun hF => Ms rfl (S_cat rfl rfl hF (fun hF => S_cat rfl rfl hF (fun hF => Ms rfl (S_cat rfl rfl hF (fun hF => S_cat rfl rfl hF (fun hF => Ms rfl (S_cat rfl rfl hF (fun hF => S_cat rfl rfl hF (fun hF => Ms rfl (S_cat rfl rfl hF (fun hF => S_cat rfl rfl hF (fun hF => Ms rfl (S_cat rfl rfl hF (fun hF => S_cat rfl rfl hF (fun hF => Ms rfl (S_cat rfl rfl hF (fun hF => S_cat rfl rfl hF (fun hF => S_byt0 rfl rfl ty_sl_22 ty_st_9 ty_ki_5 (S_call (F_parse_Parse_ok _ hF fun x18 _ hF => (S_m (v := .tup _) rfl (S_ext rfl rfl (S_ext rfl rfl (S_ext rfl rfl (S_all1 ok rfl ty_zc_30 ?_)))))) (.refl _)))))))))))))))))))))))))))))))) (.refl _))))
          intro i19 hi19 ok
          refine S_st (j := 0) (cs' := [.I x18.1.Kind, .str x18.1.Name.URI, .str x18.1.Name.Local, .sl 3 (List.map c_T_api_Attr x18.1.Attrs) 0, .sl 6 (List.map c_T_api_Node x18.1.Kids) 0, .str x18.1.Text]) ok rfl (congrArg D.agg (c_T_api_Node_eq x18.1)) rfl hi19 rfl ty_sz_30 rfl rfl (fun ok => Ai rfl (Ai rfl (Sn (C_seq (C_reg (mdl [(13, 1)]) (Ms rfl (S_cat rfl rfl hF (fun hF => S_cat rfl rfl hF (fun hF => Ms rfl (S_cat rfl rfl hF (fun hF => S_cat rfl rfl hF (fun hF => Ms rfl (S_cat rfl rfl hF (fun hF => S_cat rfl rfl hF (fun hF => Ms rfl (S_cat rfl rfl hF (fun hF => S_cat rfl rfl hF (fun hF => Ms rfl (S_cat rfl rfl hF (fun hF => S_cat rfl rfl hF (fun hF => Ms rfl (S_cat rfl rfl hF (fun hF => S_cat rfl rfl hF (fun hF => Ms rfl (S_cat rfl rfl hF (fun hF => S_cat rfl rfl hF (fun hF => Ms rfl (S_cat rfl rfl hF (fun hF => S_cat rfl rfl hF (fun hF => S_byt0 rfl rfl ty_sl_22 ty_st_9 ty_ki_5 (S_call (F_parse_Parse_ok _ hF fun x20 _ hF => (S_m (v := .tup _) rfl (S_ext rfl rfl (S_ext rfl rfl (S_ext rfl rfl (S_all1 ok rfl ty_zc_30 ?_)))))) (.refl _))))))))))))))))))))))))))))))))
          intro i21 hi21 ok
          refine S_st (j := 0) (cs' := [.I x20.1.Kind, .str x20.1.Name.URI, .str x20.1.Name.Local, .sl 3 (List.map c_T_api_Attr x20.1.Attrs) 0, .sl 6 (List.map c_T_api_Node x20.1.Kids) 0, .str x20.1.Text]) ok rfl (congrArg D.agg (c_T_api_Node_eq x20.1)) rfl hi21 rfl ty_sz_30 rfl rfl (fun ok => Ai rfl (Ai rfl (Sn (C_seq (C_reg (mdl [(16, 1)]) (Ms rfl (S_cat rfl rfl hF (fun hF => S_cat rfl rfl hF (fun hF => Ms rfl (S_cat rfl rfl hF (fun hF => S_cat rfl rfl hF (fun hF => Ms rfl (S_cat rfl rfl hF (fun hF => S_cat rfl rfl hF (fun hF => Ms rfl (S_cat rfl rfl hF (fun hF => S_cat rfl rfl hF (fun hF => Ms rfl (S_cat rfl rfl hF (fun hF => S_cat rfl rfl hF (fun hF => Ms rfl (S_cat rfl rfl hF (fun hF => S_cat rfl rfl hF (fun hF => Ms rfl (S_cat rfl rfl hF (fun hF => S_cat rfl rfl hF (fun hF => Ms rfl (S_cat rfl rfl hF (fun hF => S_cat rfl rfl hF (fun hF => S_byt0 rfl rfl ty_sl_22 ty_st_9 ty_ki_5 (S_call (F_parse_Parse_ok _ hF fun x22 _ hF => (S_m (v := .tup _) rfl (S_ext rfl rfl (S_ext rfl rfl (S_ext rfl rfl (S_all1 ok rfl ty_zc_30 ?_)))))) (.refl _))))))))))))))))))))))))))))))))
          intro i23 hi23 ok
          refine S_st (j := 0) (cs' := [.I x22.1.Kind, .str x22.1.Name.URI, .str x22.1.Name.Local, .sl 3 (List.map c_T_api_Attr x22.1.Attrs) 0, .sl 6 (List.map c_T_api_Node x22.1.Kids) 0, .str x22.1.Text]) ok rfl (congrArg D.agg (c_T_api_Node_eq x22.1)) rfl hi23 rfl ty_sz_30 rfl rfl (fun ok => Ai rfl (Ai rfl (Sn (C_seq (CR (Mi rfl (S_bin rfl rfl (ev_neq ..) (Sn ?_))))))))
          refine C_if (b := (x18.2.2 != (0 : Int))) rfl hF (fun hb24 hF => ?_) (fun hb24 hF => ?_)
          · refine CR (Mi rfl (S_bin rfl rfl (ev_neq ..) (Mb rfl ?_)))
            refine S_two (b := (x20.2.2 != (0 : Int))) 3 149 (.bool ((x20.2.2 != (0 : Int)) && (x22.2.2 != (0 : Int)))) (fun hb25 => ?_) (fun hb25 => ?_) ?_
            · refine Sx rfl rfl hb25 (Mi rfl (Sn (Sx rfl rfl hb25 (S_bin rfl rfl (ev_neq ..) (Sn (S_pickT (v := .bool _) rfl hb25 rfl (Sn (.hd (and_t hb25) ?_))))))))
              repeat first | with_reducible exact .refl _ | refine .add ?_ rfl | exact .refl _
            · refine So rfl rfl hb25 (So rfl rfl hb25 (S_pickF (v := .bool _) rfl hb25 rfl (Sn (.hd (and_f hb25) ?_))))
              repeat first | with_reducible exact .refl _ | refine .add ?_ rfl | exact .refl _
            refine Ab rfl (Sn (WP_ret ?_))
            with_reducible repeat first | apply Exit.sr | apply Exit.br | apply Exit.jr
            refine C_ret (fn := Tryz.f5) rfl (.tmp (v := .bool ((x20.2.2 != (0 : Int)) && (x22.2.2 != (0 : Int)))) rfl .nil) ?_
            exact ⟨_, _, (.refl _), WH.refl _, _, F_some hF, rfl⟩
          · refine WP_skip (CR (Mi rfl (S_bin rfl rfl (ev_eql ..) (Mb rfl ?_))))
            refine S_two (b := (x20.2.2 == (0 : Int))) 3 155 (.bool ((x20.2.2 == (0 : Int)) && (x22.2.2 == (0 : Int)))) (fun hb26 => ?_) (fun hb26 => ?_) ?_
            · refine Sx rfl rfl hb26 (Mi rfl (Sn (Sx rfl rfl hb26 (S_bin rfl rfl (ev_eql ..) (Sn (S_pickT (v := .bool _) rfl hb26 rfl (Sn (.hd (and_t hb26) ?_))))))))
              repeat first | with_reducible exact .refl _ | refine .add ?_ rfl | exact .refl _
            · refine So rfl rfl hb26 (So rfl rfl hb26 (S_pickF (v := .bool _) rfl hb26 rfl (Sn (.hd (and_f hb26) ?_))))
              repeat first | with_reducible exact .refl _ | refine .add ?_ rfl | exact .refl _
            refine Mb rfl ?_
            refine S_twoJ 4 160 hF (fun J28 hb27 hF => ?_) (fun J28 hb27 hF => ?_) (fun v29 hF => ?_)
            · refine Sx rfl rfl hb27 (S_ldP (j := 2) ok rfl rfl rfl hi19 (p_agg (vs := c_T_api_Node x18.1) ty_ag_30 ty_sz_30 rfl (c_T_api_Node_eq x18.1).symm) (Sn (Sx rfl rfl hb27 (S_ldP (j := 1) ok rfl rfl rfl hi21 (p_agg (vs := c_T_api_Node x20.1) ty_ag_30 ty_sz_30 rfl (c_T_api_Node_eq x20.1).symm) (Sn (Sx rfl rfl hb27 (S_call (F_lecternref05_Same_ok _ hF fun x30 _ hF => (Sn (S_pickT (v := .bool _) rfl hb27 rfl (Sn ?_)))) (.refl _))))))))
              refine ⟨_, hF, .hd (.refl _) ?_⟩
              repeat first | with_reducible exact .refl _ | refine .add ?_ rfl | exact .refl _
            · refine So rfl rfl hb27 (So rfl rfl hb27 (So rfl rfl hb27 (S_pickF (v := .bool _) rfl hb27 rfl (Sn ?_))))
              refine ⟨_, hF, .hd (.refl _) ?_⟩
              repeat first | with_reducible exact .refl _ | refine .add ?_ rfl | exact .refl _
            · refine Mb rfl ?_
              refine S_twoJ 4 165 hF (fun J32 hb31 hF => ?_) (fun J32 hb31 hF => ?_) (fun v33 hF => ?_)
              · refine Sx rfl rfl hb31 (S_ldP (j := 2) ok rfl rfl rfl hi19 (p_agg (vs := c_T_api_Node x18.1) ty_ag_30 ty_sz_30 rfl (c_T_api_Node_eq x18.1).symm) (Sn (Sx rfl rfl hb31 (S_ldP (j := 0) ok rfl rfl rfl hi23 (p_agg (vs := c_T_api_Node x22.1) ty_ag_30 ty_sz_30 rfl (c_T_api_Node_eq x22.1).symm) (Sn (Sx rfl rfl hb31 (S_call (F_lecternref05_Same_ok _ hF fun x34 _ hF => (Sn (S_pickT (v := .bool _) rfl hb31 rfl (Sn ?_)))) (.refl _))))))))
                refine ⟨_, hF, .hd (.refl _) ?_⟩
                repeat first | with_reducible exact .refl _ | refine .add ?_ rfl | exact .refl _
              · refine So rfl rfl hb31 (So rfl rfl hb31 (So rfl rfl hb31 (S_pickF (v := .bool _) rfl hb31 rfl (Sn ?_))))
                refine ⟨_, hF, .hd (.refl _) ?_⟩
                repeat first | with_reducible exact .refl _ | refine .add ?_ rfl | exact .refl _
              · refine Mb rfl ?_
                refine S_twoJ 9 175 hF (fun J36 hb35 hF => ?_) (fun J36 hb35 hF => ?_) (fun v37 hF => ?_)
                · refine Sx rfl rfl hb35 (S_faP rfl ty_fd_30_3 ty_sz_28 (Sn (Sx rfl rfl hb35 (S_ldP (j := 2) ok rfl rfl rfl hi19 (p_one (v := .sl 6 (List.map c_T_api_Node x18.1.Kids) 0) ty_ag_28 ty_sz_28 rfl) (Sn (Sx rfl rfl hb35 (S_ix rfl rfl ty_sl_28 ty_sz_30 hF (fun x38 _ hF => Sn (Sx rfl rfl hb35 ?_)))))))))
                  refine S_faQ rfl ty_fd_30_1 ty_sz_26 (by rw [c_T_api_Node_eq]; rfl) ?_
                  refine Sn (Sx rfl rfl hb35 ?_)
                  refine S_faQ rfl ty_fd_26_0 ty_sz_9 (by rw [c_T_api_Node_eq]; rfl) ?_
                  refine Sn (Sx rfl rfl hb35 (S_ldQ rfl (p_one ty_ag_9 ty_sz_9 (congrArg (List.drop 0) (congrArg (List.drop 1) (c_T_api_Node_eq x38)))) (Sn (Sx rfl rfl hb35 (Ms rfl (Sn (Sx rfl rfl hb35 (S_bin rfl rfl e_seql (Sn (S_pickT (v := .bool _) rfl hb35 rfl (Sn ?_)))))))))))
                  refine ⟨_, hF, .hd (.refl _) ?_⟩
                  repeat first | with_reducible exact .refl _ | refine .add ?_ rfl | exact .refl _
                · refine So rfl rfl hb35 (So rfl rfl hb35 (So rfl rfl hb35 (So rfl rfl hb35 (So rfl rfl hb35 (So rfl rfl hb35 (So rfl rfl hb35 (So rfl rfl hb35 (S_pickF (v := .bool _) rfl hb35 rfl (Sn ?_)))))))))
                  refine ⟨_, hF, .hd (.refl _) ?_⟩
                  repeat first | with_reducible exact .refl _ | refine .add ?_ rfl | exact .refl _
                · refine Ab rfl (Sn (WP_ret ?_))
                  with_reducible repeat first | apply Exit.sr | apply Exit.br | apply Exit.jr
                  refine C_ret (fn := Tryz.f5) rfl (.tmp (v := .bool v37) rfl .nil) ?_
                  exact ⟨_, _, (.refl _), WH.refl _, _, F_some hF, rfl⟩
end Go.Proofs.YtilhbalhkljanaaGreatDoor
