/- The walk of ScanKeeps. No condition. -/
import Derived.Test.YtfokkdofcekdbaaGreatDoorKw
import Derived.Test.YtfokkdofcekdbaaGreatDoorX2
import Derived.Test.YtfokkdofcekdbaaGreatDoorX1
set_option linter.unusedVariables false
set_option linter.unusedSimpArgs false
set_option maxRecDepth 20000
set_option maxHeartbeats 8000000
namespace Go.Proofs.YtfokkdofcekdbaaGreatDoor
theorem en_4k : entD Tryz.prog 4 = true := by kernel_rfl
theorem op1 {α : Type} {o : Option α} {a : α} (h : o = some a) : OptP (o.bind fun _ => some ()) (fun _ : Unit => True) := by rw [h]; exact ⟨(), rfl, trivial⟩
theorem hX_cons (q : T_scan_Token × Nat) (X : List (T_scan_Token × Nat)) : hX (q :: X) = hX X ++ [mo q.2 c_T_scan_Pair q.1.Pairs] := by simp [hX]
theorem hX_at : ∀ {X : List (T_scan_Token × Nat)} {i : Nat} {p : T_scan_Token × Nat}, X[i]? = some p → ∃ j, (hX X)[j]? = some (mo p.2 c_T_scan_Pair p.1.Pairs) ∧ j < (hX X).length ∧ ∀ p' : T_scan_Token × Nat, (hX X).set j (mo p'.2 c_T_scan_Pair p'.1.Pairs) = hX (X.set i p')
 | [], i, p, h => by simp at h
 | q :: X, 0, p, h => by
  simp at h; subst h
  refine ⟨(hX X).length, by rw [hX_cons]; simp, by rw [hX_cons]; simp, fun p' => ?_⟩
  rw [hX_cons, List.set_cons_zero, hX_cons, List.set_append_right _ _ (Nat.le_refl _)]; simp
 | q :: X, i + 1, p, h => by
  obtain ⟨j, h1, h2, h3⟩ := hX_at (X := X) (i := i) (p := p) (by simpa using h)
  refine ⟨j, by rw [hX_cons, List.getElem?_append_left h2]; exact h1, by rw [hX_cons]; simp; omega, fun p' => ?_⟩
  rw [hX_cons, List.set_cons_succ, hX_cons, List.set_append_left _ _ h2, h3]
theorem obj_at {X : List (T_scan_Token × Nat)} {i : Nat} {p : T_scan_Token × Nat} (h : X[i]? = some p) (m : Nat × AObj) (O : List (Nat × AObj)) :
  ∃ j, (m :: (hX X ++ O))[j + 1]? = some (mo p.2 c_T_scan_Pair p.1.Pairs) ∧ ∀ p' : T_scan_Token × Nat, (m :: (hX X ++ O)).set (j + 1) (mo p'.2 c_T_scan_Pair p'.1.Pairs) = m :: (hX (X.set i p') ++ O) := by
 obtain ⟨j, h1, h2, h3⟩ := hX_at h
 refine ⟨j, ?_, fun p' => ?_⟩
 ·rw [List.getElem?_cons_succ, List.getElem?_append_left h2]; exact h1
 ·rw [List.set_cons_succ, List.set_append_left _ _ h2, h3]
theorem WO_hole : ∀ {O : List (Nat × AObj)} {j : Nat}, j < O.length → WO O (O.set j (0, .room))
 | [], j, h => by simp at h
 | p :: O, 0, _ => .drop (.hole (WO.refl O))
 | p :: O, j + 1, h => .keep (WO_hole (by simpa using h))
theorem hX_hole {X : List (T_scan_Token × Nat)} {i : Nat} {p : T_scan_Token × Nat} (h : X[i]? = some p) (O : List (Nat × AObj)) {z : T_scan_Token} : WO (hX X ++ O) (hX (X.set i (z, 0)) ++ O) := by
 obtain ⟨j, h1, h2, h3⟩ := hX_at h
 have h4 : (hX X).set j (0, .room) = hX (X.set i (z, 0)) := h3 (z, 0)
 rw [← h4, ← List.set_append_left _ _ h2]
 exact WO_hole (by rw [List.length_append]; omega)
theorem zX_set {X : List (T_scan_Token × Nat)} (h : zX X) {i : Nat} {p : T_scan_Token × Nat} (hp : p.2 = 0 → p.1.Pairs = []) : zX (X.set i p) := by
 intro q hq
 rcases List.mem_or_eq_of_mem_set hq with h1 | h1
 ·exact h q h1
 ·subst h1; exact hp
theorem fst_set {X : List (T_scan_Token × Nat)} {Y : List T_scan_Token} (h : X.map Prod.fst = Y) (i : Nat) (p : T_scan_Token × Nat) : (X.set i p).map Prod.fst = Y.set i p.1 := by
 subst h; rw [List.map_set]
theorem fst_get {X : List (T_scan_Token × Nat)} {Y : List T_scan_Token} (h : X.map Prod.fst = Y) {i : Int} {a : T_scan_Token} (hi : idx Y i = some a) : ∃ t, idx X i = some (a, t) := by
 subst h
 obtain ⟨h0, h1, h2⟩ := idx_get hi
 rw [List.getElem?_map] at h1
 obtain ⟨q, hq, rfl⟩ := Option.map_eq_some_iff.1 h1
 refine ⟨q.2, ?_⟩
 unfold idx
 rw [if_pos h0, hq]
theorem mo_cX {g : Nat} {X : List (T_scan_Token × Nat)} {i : Nat} {p p' : T_scan_Token × Nat} (hp : X[i]? = some p) (e : cX p' = cX p) : mo g cX (X.set i p') = mo g cX X := by
 have : (X.set i p').map cX = X.map cX := by
  rw [List.map_set, e]
  refine List.ext_getElem? fun j => ?_
  by_cases hj : i = j
  ·subst hj
   have hlt := (List.getElem?_eq_some_iff.1 hp).1
   rw [List.getElem?_set_self (by simpa using hlt), List.getElem?_map, hp]; rfl
  ·rw [List.getElem?_set_ne hj]
 unfold mo fl; rw [this]
theorem WO_none : ∀ O : List (Nat × AObj), WO O []
 | [] => .nil
 | _ :: O => .drop (WO_none O)
theorem sk_w (p0 : List UInt8) {G : Bool → Prop} (h : Heap) (hF : OptP (F_SK p0) G) : CallsA Tryz.prog 4 [.sl 1 (List.map c_u8 p0) 0] h fun d h' => ∃ r, G r ∧ d = .bool r := by
 refine CallsA.ret ?_
 refine C_body Tryz.func4 rfl en_4k Tryz.ntmps4 rfl (fun ok => ?_)
 rw [F_SK] at hF
 refine C_seq ?_
 refine C_reg (mdl []) ?_
 refine S_a (v := .bool _) rfl ?_
 refine S_nil ?_
 refine C_seq ?_
 refine C_seq ?_
 refine C_reg (mdl []) ?_
 refine S_call (F_lecternlaw03_awake_ok _ hF fun x1 _ hF => ?_) (.nil)
 refine S_un rfl (ev_not _) ?_
 refine S_nil ?_
 refine C_if (b := (!x1)) rfl hF (fun hb2 hF => ?_) (fun hb2 hF => ?_)
 ·
  refine C_seq ?_
  refine C_reg (mdl []) ?_
  refine S_a (v := .bool _) rfl ?_
  refine S_nil ?_
  refine WP_ret ?_
  repeat (first | with_reducible refine Exit.sel_ret ?_ | with_reducible refine Exit.blk_ret ?_ | with_reducible refine Exit.jmp_ret ?_)
  refine C_ret (fn := Tryz.f4) rfl (.tmp (v := .bool false) rfl .nil) ?_
  exact ⟨_, _, (.refl _), WH.refl _, _, F_some hF, rfl⟩
 refine WP_skip ?_
 refine C_seq ?_
 refine C_reg (mdl []) ?_
 refine S_m (v := .sl _ _ _) rfl ?_
 refine S_call (F_lecternref01_Spare_ok _ hF fun x3 _ hF => ?_) (.cons (.refl _) (.nil))
 refine S_a (v := .slx _ _ _) rfl ?_
 refine S_nil ?_
 refine C_seq ?_
 refine C_reg (mdl []) ?_
 refine S_m (v := .slx _ _ _) rfl ?_
 refine S_call (all_own _ h [] ok hF (fun l gr X hX1 zgr zx ok hF => ?_)) (.cons (.slx _ _ _) (.nil))
 refine S_m (v := .tup _) rfl ?_
 refine S_ext rfl rfl ?_
 refine S_ext rfl rfl ?_
 refine S_ext rfl rfl ?_
 refine S_a (v := mslO _ _ _) rfl ?_
 refine S_a (v := .int _ _) rfl ?_
 refine S_a (v := .int _ _) rfl ?_
 refine S_nil ?_
 refine C_seq ?_
 refine C_reg (mdl []) ?_
 refine S_m (v := .slx _ _ _) rfl ?_
 refine S_call (F_scan_All_ok _ hF fun m _ hF => ?_) (.cons (.slx _ _ _) (.nil))
 refine S_m (v := .tup _) rfl ?_
 refine S_ext rfl rfl ?_
 refine S_ext rfl rfl ?_
 refine S_ext rfl rfl ?_
 refine S_a (v := .sl _ _ _) rfl ?_
 refine S_a (v := .int _ _) rfl ?_
 refine S_a (v := .int _ _) rfl ?_
 refine S_nil ?_
 have hXl : X.length = l.1.length := by rw [← hX1]; simp
 refine C_seq ?_
 refine C_seq ?_
 refine C_reg (mdl []) ?_
 refine S_m (v := .int _ _) rfl ?_
 refine S_m (v := .int _ _) rfl ?_
 refine S_bin rfl rfl (ev_neq ..) ?_
 refine S_m (v := .bool _) rfl ?_
 refine S_two (b := (l.2.2 != m.2.2)) 6 41 (.bool ((l.2.2 != m.2.2) || ((l.1.length : Int) != (m.1.length : Int)))) (fun hb3 => ?_) (fun hb3 => ?_) ?_
 ·
  refine S_off rfl rfl hb3 ?_
  refine S_offD ?_
  refine S_off rfl rfl hb3 ?_
  refine S_offD ?_
  refine S_off rfl rfl hb3 ?_
  refine S_offD ?_
  refine S_off rfl rfl hb3 ?_
  refine S_offD ?_
  refine S_off rfl rfl hb3 ?_
  refine S_offD ?_
  refine S_pickT (v := .bool _) rfl hb3 rfl ?_
  refine S_nil ?_
  refine .hd (or_t hb3) ?_
  repeat (first | with_reducible exact WS.refl _ | refine WS.add ?_ rfl | exact WS.refl _)
 ·
  refine S_on rfl rfl hb3 ?_
  refine S_in ?_
  refine S_m (v := mslO _ _ _) rfl ?_
  refine S_nil ?_
  refine S_on rfl rfl hb3 ?_
  refine S_in ?_
  refine S_lenO zgr rfl ty_sl_25 ?_
  refine S_nil ?_
  refine S_on rfl rfl hb3 ?_
  refine S_in ?_
  refine S_m (v := .sl _ _ _) rfl ?_
  refine S_nil ?_
  refine S_on rfl rfl hb3 ?_
  refine S_in ?_
  refine S_lenL rfl ty_sl_25 ?_
  refine S_nil ?_
  refine S_on rfl rfl hb3 ?_
  refine S_in ?_
  refine S_bin rfl rfl (ev_neq ..) ?_
  refine S_nil ?_
  refine S_pickF (v := .bool _) rfl hb3 rfl ?_
  refine S_nil ?_
  rw [hXl]
  refine .hd (or_f hb3) ?_
  repeat (first | with_reducible exact WS.refl _ | refine WS.add ?_ rfl | exact WS.refl _)
 refine S_nil ?_
 refine C_if (b := ((l.2.2 != m.2.2) || ((l.1.length : Int) != (m.1.length : Int)))) rfl hF (fun hb4 hF => ?_) (fun hb4 hF => ?_)
 ·
  refine C_seq ?_
  refine C_reg (mdl []) ?_
  refine S_a (v := .bool _) rfl ?_
  refine S_nil ?_
  refine WP_ret ?_
  repeat (first | with_reducible refine Exit.sel_ret ?_ | with_reducible refine Exit.blk_ret ?_ | with_reducible refine Exit.jmp_ret ?_)
  refine C_ret (fn := Tryz.f4) rfl (.tmp (v := .bool false) rfl .nil) ?_
  exact ⟨_, _, (.refl _), WH.refl _, _, F_some hF, rfl⟩
 refine WP_skip ?_
 refine C_join hF (fun (_ : Unit) s' => OK h [] ∧ WS s' ⟨mkSl 101 [(0, .sl 1 (List.map c_u8 p0) 0), (3, .slx 1 (List.map c_u8 x3.1) (List.map c_u8 x3.2)), (7, .sl 6 (List.map c_T_scan_Token m.1) 0)], Hp h []⟩) (fun J2 hF => ?_) ?_
 ·
  refine C_seq ?_
  refine C_reg (mdl []) ?_
  refine S_m (v := mslO _ _ _) rfl ?_
  refine S_lenO zgr rfl ty_sl_25 ?_
  refine S_m (v := .int _ _) rfl ?_
  refine S_nil ?_
  refine WP_block ?_
  refine C_loop (σ := List T_scan_Token × Int) hF (fun (v : List T_scan_Token × Int) s' => match v with | (Y, i) => ∃ (g : Nat) (X : List (T_scan_Token × Nat)), X.map Prod.fst = Y ∧ zX X ∧ (g = 0 → X = []) ∧ OK h (mo g cX X :: (hX X ++ [])) ∧ WS s' ⟨mkSl 101 [(0, .sl 1 (List.map c_u8 p0) 0), (3, .slx 1 (List.map c_u8 x3.1) (List.map c_u8 x3.2)), (4, mslO 6 g X), (7, .sl 6 (List.map c_T_scan_Token m.1) 0), (43, .int .i64 (l.1.length : Int)), (44, .int .i64 i)], Hp h (mo g cX X :: (hX X ++ []))⟩) ?_ ?_
  ·
   exact ⟨gr, X, hX1, zx, zgr, ok, WS.mk' (.cons (.refl _) (.cons (.refl _) (.cons (.refl _) (.cons (.refl _) (.cons (.eq (congrArg (fun n : Nat => D.int .i64 (n : Int)) hXl)) (.cons (.refl _) .nil)))))) ok (WO.refl _)⟩
  ·
   rintro G1 hG1 rec ⟨Y, i⟩ s' ih hF ⟨g, X, hX1, zx, zg, ok, hws⟩
   refine WP_ws hws ?_
   clear hws s'
   rw [K_l2] at hF
   refine C_seq ?_
   refine C_reg (mdl []) ?_
   refine S_bin rfl rfl (ev_lss ..) ?_
   refine S_nil ?_
   refine C_seq ?_
   refine C_if (b := (decide (i < (l.1.length : Int)))) rfl hF (fun hb hF => ?_) (fun hb hF => ?_)
   ·
    refine WP_skip ?_
    refine C_join hF (fun (Y : List T_scan_Token) s' => ∃ (g : Nat) (X : List (T_scan_Token × Nat)), X.map Prod.fst = Y ∧ zX X ∧ (g = 0 → X = []) ∧ OK h (mo g cX X :: (hX X ++ [])) ∧ WS s' ⟨mkSl 101 [(0, .sl 1 (List.map c_u8 p0) 0), (3, .slx 1 (List.map c_u8 x3.1) (List.map c_u8 x3.2)), (4, mslO 6 g X), (7, .sl 6 (List.map c_T_scan_Token m.1) 0), (43, .int .i64 (l.1.length : Int)), (44, .int .i64 i)], Hp h (mo g cX X :: (hX X ++ []))⟩) (fun J hF => ?_) ?_
    ·
     refine WP_block ?_
     refine C_seq ?_
     refine C_reg (mdl []) ?_
     refine S_m (v := .int _ _) rfl ?_
     refine S_a (v := .int _ _) rfl ?_
     refine S_nil ?_
     refine C_join hF (fun (Y : List T_scan_Token) s' => ∃ X : List (T_scan_Token × Nat), X.map Prod.fst = Y ∧ zX X ∧ (g = 0 → X = []) ∧ OK h (mo g cX X :: (hX X ++ [])) ∧ WS s' ⟨mkSl 101 [(0, .sl 1 (List.map c_u8 p0) 0), (3, .slx 1 (List.map c_u8 x3.1) (List.map c_u8 x3.2)), (4, mslO 6 g X), (7, .sl 6 (List.map c_T_scan_Token m.1) 0), (10, .int .i64 i), (43, .int .i64 (l.1.length : Int)), (44, .int .i64 i)], Hp h (mo g cX X :: (hX X ++ []))⟩) (fun J' hF => ?_) ?_
     ·
      obtain ⟨x, hx, hF⟩ := F_bind hF
      obtain ⟨t, hxt⟩ := fst_get hX1 hx
      have zt : t = 0 → x.Pairs = [] := zx (x, t) (List.mem_of_getElem? (idx_get hxt).2.1)
      refine C_seq ?_
      refine C_reg (mdl []) ?_
      refine S_m (v := mslO _ _ _) rfl ?_
      refine S_m (v := .int _ _) rfl ?_
      refine S_ixO (f := fun _ => some ()) (G := fun _ => True) zg rfl rfl ty_sl_25 ty_sz_41 (op1 hxt) (fun _ _ _ => ?_)
      refine S_faP rfl ty_fd_41_3 ty_sz_39 ?_
      refine S_ldO (c := cX) (j := 0) (v := mslO 2 t x.Pairs) ok rfl zg rfl rfl (fun _ => rfl) hxt rfl rfl (p_one (v := mslO 2 t x.Pairs) ty_ag_39 ty_sz_39 rfl) ?_
      refine S_lenO zt rfl ty_sl_39 ?_
      refine S_m (v := .int _ _) rfl ?_
      refine S_nil ?_
      refine WP_block ?_
      refine C_loop (σ := List T_scan_Token × Int) hF (fun (v : List T_scan_Token × Int) s' => match v with | (Y, k) => ∃ X : List (T_scan_Token × Nat), X.map Prod.fst = Y ∧ zX X ∧ (g = 0 → X = []) ∧ OK h (mo g cX X :: (hX X ++ [])) ∧ WS s' ⟨mkSl 101 [(0, .sl 1 (List.map c_u8 p0) 0), (3, .slx 1 (List.map c_u8 x3.1) (List.map c_u8 x3.2)), (4, mslO 6 g X), (7, .sl 6 (List.map c_T_scan_Token m.1) 0), (10, .int .i64 i), (43, .int .i64 (l.1.length : Int)), (44, .int .i64 i), (52, .int .i64 (x.Pairs.length : Int)), (53, .int .i64 k)], Hp h (mo g cX X :: (hX X ++ []))⟩) ?_ ?_
      ·
       exact ⟨X, hX1, zx, zg, ok, WS.mk' (.cons (.refl _) (.cons (.refl _) (.cons (.refl _) (.cons (.refl _) (.cons (.refl _) (.cons (.refl _) (.cons (.refl _) (.cons (.refl _) (.cons (.refl _) .nil))))))))) ok (WO.refl _)⟩
      ·
       rintro G3 hG3 rec3 ⟨Y, k⟩ s' ih3 hF ⟨X, hX1, zx, zg, ok, hws⟩
       refine WP_ws hws ?_
       clear hws s'
       rw [K_l3] at hF
       refine C_seq ?_
       refine C_reg (mdl []) ?_
       refine S_bin rfl rfl (ev_lss ..) ?_
       refine S_nil ?_
       refine C_seq ?_
       refine C_if (b := (decide (k < (x.Pairs.length : Int)))) rfl hF (fun hb5 hF => ?_) (fun hb5 hF => ?_)
       ·
        refine WP_skip ?_
        refine C_join hF (fun (Y : List T_scan_Token) s' => ∃ X : List (T_scan_Token × Nat), X.map Prod.fst = Y ∧ zX X ∧ (g = 0 → X = []) ∧ OK h (mo g cX X :: (hX X ++ [])) ∧ WS s' ⟨mkSl 101 [(0, .sl 1 (List.map c_u8 p0) 0), (3, .slx 1 (List.map c_u8 x3.1) (List.map c_u8 x3.2)), (4, mslO 6 g X), (7, .sl 6 (List.map c_T_scan_Token m.1) 0), (10, .int .i64 i), (43, .int .i64 (l.1.length : Int)), (44, .int .i64 i), (52, .int .i64 (x.Pairs.length : Int)), (53, .int .i64 k)], Hp h (mo g cX X :: (hX X ++ []))⟩) (fun J3 hF => ?_) ?_
        ·
         obtain ⟨x2, hx, hF⟩ := F_bind hF
         obtain ⟨t, hxt⟩ := fst_get hX1 hx
         have zt : t = 0 → x2.Pairs = [] := zx (x2, t) (List.mem_of_getElem? (idx_get hxt).2.1)
         obtain ⟨J, hj, hset⟩ := obj_at (idx_get hxt).2.1 (mo g cX X) []
         dsimp only at hj
         refine WP_block ?_
         refine C_seq ?_
         refine C_reg (mdl []) ?_
         refine S_m (v := .int _ _) rfl ?_
         refine S_a (v := .int _ _) rfl ?_
         refine S_nil ?_
         refine C_reg (mdl []) ?_
         refine S_m (v := mslO _ _ _) rfl ?_
         refine S_m (v := .int _ _) rfl ?_
         refine S_ixO (f := fun _ => some ()) (G := fun _ => True) zg rfl rfl ty_sl_25 ty_sz_41 (op1 hxt) (fun _ _ _ => ?_)
         refine S_faP rfl ty_fd_41_3 ty_sz_39 ?_
         refine S_ldO (c := cX) (j := 0) (v := mslO 2 t x2.Pairs) ok rfl zg rfl rfl (fun _ => rfl) hxt rfl rfl (p_one (v := mslO 2 t x2.Pairs) ty_ag_39 ty_sz_39 rfl) ?_
         refine S_m (v := .int _ _) rfl ?_
         refine S_bld (v := .agg [.str [103, 111, 110, 101], .str []]) (b_st ty_zc_44 ty_pl_44 rfl) ?_
         refine S_ixO zt rfl rfl ty_sl_39 ty_sz_44 hF (fun z hz hF => ?_)
         refine S_stO (q := 2) (c := c_T_scan_Pair) (f0 := 0) (j := J + 1) (v := .agg [.str [103, 111, 110, 101], .str []]) (b := gone) ok zt rfl rfl hj (fun _ => rfl) hz rfl rfl ty_sz_44 rfl rfl (fun zt2 ok => ?_)
         have hs := hset (setP x2 (x2.Pairs.set k.toNat gone), t)
         dsimp only [setP] at hs
         rw [hs, ← mo_cX (p' := (setP x2 (x2.Pairs.set k.toNat gone), t)) (idx_get hxt).2.1 (by simp [cX, setP, mslO])] at ok
         rw [hs, ← mo_cX (p' := (setP x2 (x2.Pairs.set k.toNat gone), t)) (idx_get hxt).2.1 (by simp [cX, setP, mslO])]
         refine S_nil ?_
         exact ⟨_, hF, X.set i.toNat (setP x2 (x2.Pairs.set k.toNat gone), t), fst_set hX1 _ _, zX_set zx zt2, fun h0 => by rw [zg h0]; rfl, ok, WS.mk' (.cons (.refl _) (.cons (.refl _) (.cons (.eq (mslO_len (by simp))) (.cons (.refl _) (.cons (.refl _) (.cons (.refl _) (.cons (.refl _) (.cons (.refl _) (.cons (.refl _) .nil))))))))) ok (WO.refl _)⟩
        ·
         rintro Y2 s' hF ⟨X, hX1, zx, zg, ok, hws⟩
         refine WP_ws hws ?_
         clear hws s'
         refine C_reg (mdl []) ?_
         refine S_bin rfl rfl (ev_add ..) ?_
         refine S_m (v := .int _ _) rfl ?_
         refine S_nil ?_
         refine ih3 (Y2, (IntKind.wrap .i64 (k + (1 : Int)))) _ hF ?_
         exact ⟨X, hX1, zx, zg, ok, WS.mk' (.cons (.refl _) (.cons (.refl _) (.cons (.refl _) (.cons (.refl _) (.cons (.refl _) (.cons (.refl _) (.cons (.refl _) (.cons (.refl _) (.cons (.refl _) .nil))))))))) ok (WO.refl _)⟩
       ·
        refine WP_exit ?_
        simp only [Exit.sel, Exit.blk, Exit.jmp, if_true, if_false, reduceIte, Nat.reduceEqDiff, Nat.succ_ne_zero, Nat.zero_ne_one, Nat.one_ne_zero]
        replace hF := hG3 _ (F_some hF)
        exact ⟨Y, hF, X, hX1, zx, zg, ok, WS.mk' (.cons (.refl _) (.cons (.refl _) (.cons (.refl _) (.cons (.refl _) (.cons (.refl _) (.cons (.refl _) (.cons (.refl _) .nil))))))) ok (WO.refl _)⟩
     ·
      rintro Y2 s' hF ⟨X, hX1, zx, zg, ok, hws⟩
      refine WP_ws hws ?_
      clear hws s'
      obtain ⟨x2, hx, hF⟩ := F_bind hF
      obtain ⟨t, hxt⟩ := fst_get hX1 hx
      refine C_reg (mdl []) ?_
      refine S_m (v := mslO _ _ _) rfl ?_
      refine S_m (v := .int _ _) rfl ?_
      refine S_bld (v := .agg [.int .i64 0, .int .i64 0, .str [], .snil, .str [], .int .i64 0]) (b_st ty_zc_41 ty_pl_41 rfl) ?_
      refine S_ixO (f := fun _ => some ()) (G := fun _ => True) zg rfl rfl ty_sl_25 ty_sz_41 (op1 hxt) (fun _ _ _ => ?_)
      refine S_stO (q := 6) (c := cX) (f0 := 0) (j := 0) (v := .agg [.int .i64 0, .int .i64 0, .str [], .snil, .str [], .int .i64 0]) (b := (zeroT, 0)) ok zg rfl rfl rfl (fun _ => rfl) hxt rfl rfl ty_sz_41 rfl rfl (fun zg2 ok => ?_)
      refine S_nil ?_
      have hwo : WO (mo g cX (X.set i.toNat (zeroT, 0)) :: (hX X ++ [])) (mo g cX (X.set i.toNat (zeroT, 0)) :: (hX (X.set i.toNat (zeroT, 0)) ++ [])) := .keep (hX_hole (idx_get hxt).2.1 [])
      exact ⟨_, hF, g, X.set i.toNat (zeroT, 0), fst_set hX1 _ _, zX_set zx (fun _ => rfl), zg2, (hwo.spec ok).1, WS.mk' (.cons (.refl _) (.cons (.refl _) (.cons (.eq (mslO_len (by simp))) (.cons (.refl _) (.cons (.refl _) (.cons (.refl _) .nil)))))) ok hwo⟩
    ·
     rintro Y2 s' hF ⟨g, X, hX1, zx, zg, ok, hws⟩
     refine WP_ws hws ?_
     clear hws s'
     refine C_reg (mdl []) ?_
     refine S_bin rfl rfl (ev_add ..) ?_
     refine S_m (v := .int _ _) rfl ?_
     refine S_nil ?_
     refine ih (Y2, (IntKind.wrap .i64 (i + (1 : Int)))) _ hF ?_
     exact ⟨g, X, hX1, zx, zg, ok, WS.mk' (.cons (.refl _) (.cons (.refl _) (.cons (.refl _) (.cons (.refl _) (.cons (.refl _) (.cons (.refl _) .nil)))))) ok (WO.refl _)⟩
   ·
    refine WP_exit ?_
    simp only [Exit.sel, Exit.blk, Exit.jmp, if_true, if_false, reduceIte, Nat.reduceEqDiff, Nat.succ_ne_zero, Nat.zero_ne_one, Nat.one_ne_zero]
    replace hF := hG1 _ (F_some hF)
    have hwo : WO (mo g cX X :: (hX X ++ [])) [] := WO_none _
    exact ⟨(), hF, (hwo.spec ok).1, WS.mk' (.cons (.refl _) (.cons (.refl _) (.cons (.refl _) .nil))) ok hwo⟩
 rintro _ s' hF ⟨ok, hws⟩
 refine WP_ws hws ?_
 clear hws s'
 refine C_seq ?_
 refine C_reg (mdl []) ?_
 refine S_m (v := .sl _ _ _) rfl ?_
 refine S_call (F_lecternref03_All_ok _ hF fun w _ hF => ?_) (.cons (.refl _) (.nil))
 refine S_m (v := .tup _) rfl ?_
 refine S_ext rfl rfl ?_
 refine S_ext rfl rfl ?_
 refine S_ext rfl rfl ?_
 refine S_a (v := .sl _ _ _) rfl ?_
 refine S_a (v := .int _ _) rfl ?_
 refine S_a (v := .int _ _) rfl ?_
 refine S_nil ?_
 refine C_seq ?_
 refine C_seq ?_
 refine C_reg (mdl []) ?_
 refine S_m (v := .sl _ _ _) rfl ?_
 refine S_lenL rfl ty_sl_29 ?_
 refine S_m (v := .sl _ _ _) rfl ?_
 refine S_lenL rfl ty_sl_25 ?_
 refine S_bin rfl rfl (ev_neq ..) ?_
 refine S_nil ?_
 refine C_if (b := ((w.1.length : Int) != (m.1.length : Int))) rfl hF (fun hb6 hF => ?_) (fun hb6 hF => ?_)
 ·
  refine C_seq ?_
  refine C_reg (mdl []) ?_
  refine S_a (v := .bool _) rfl ?_
  refine S_nil ?_
  refine WP_ret ?_
  repeat (first | with_reducible refine Exit.sel_ret ?_ | with_reducible refine Exit.blk_ret ?_ | with_reducible refine Exit.jmp_ret ?_)
  refine C_ret (fn := Tryz.f4) rfl (.tmp (v := .bool false) rfl .nil) ?_
  exact ⟨_, _, (.refl _), WH.refl _, _, F_some hF, rfl⟩
 refine WP_skip ?_
 refine C_join hF (fun (_ : Unit) s' => OK h [] ∧ WS s' ⟨mkSl 101 [(0, .sl 1 (List.map c_u8 p0) 0), (3, .slx 1 (List.map c_u8 x3.1) (List.map c_u8 x3.2))], Hp h []⟩) (fun J3 hF => ?_) ?_
 ·
  refine C_seq ?_
  refine C_reg (mdl []) ?_
  refine S_m (v := .sl _ _ _) rfl ?_
  refine S_lenL rfl ty_sl_25 ?_
  refine S_m (v := .int _ _) rfl ?_
  refine S_nil ?_
  refine WP_block ?_
  refine C_loop (σ := Int) hF (fun (i : Int) s' => OK h [] ∧ WS s' ⟨mkSl 101 [(0, .sl 1 (List.map c_u8 p0) 0), (3, .slx 1 (List.map c_u8 x3.1) (List.map c_u8 x3.2)), (7, .sl 6 (List.map c_T_scan_Token m.1) 0), (12, .sl 6 (List.map c_T_lecternref03_Token w.1) 0), (82, .int .i64 (m.1.length : Int)), (83, .int .i64 i)], Hp h []⟩) ?_ ?_
  ·
   exact ⟨ok, WS.mk' (.cons (.refl _) (.cons (.refl _) (.cons (.refl _) (.cons (.refl _) (.cons (.refl _) (.cons (.refl _) .nil)))))) ok (WO.refl _)⟩
  ·
   rintro G1 hG1 rec i s' ih hF ⟨ok, hws⟩
   refine WP_ws hws ?_
   clear hws s'
   rw [K_l4] at hF
   refine C_seq ?_
   refine C_reg (mdl []) ?_
   refine S_bin rfl rfl (ev_lss ..) ?_
   refine S_nil ?_
   refine C_seq ?_
   refine C_if (b := (decide (i < (m.1.length : Int)))) rfl hF (fun hb hF => ?_) (fun hb hF => ?_)
   ·
    refine WP_skip ?_
    refine C_join hF (fun (_ : Unit) s' => OK h [] ∧ WS s' ⟨mkSl 101 [(0, .sl 1 (List.map c_u8 p0) 0), (3, .slx 1 (List.map c_u8 x3.1) (List.map c_u8 x3.2)), (7, .sl 6 (List.map c_T_scan_Token m.1) 0), (12, .sl 6 (List.map c_T_lecternref03_Token w.1) 0), (82, .int .i64 (m.1.length : Int)), (83, .int .i64 i)], Hp h []⟩) (fun J hF => ?_) ?_
    ·
     refine WP_block ?_
     refine C_seq ?_
     refine C_reg (mdl []) ?_
     refine S_m (v := .int _ _) rfl ?_
     refine S_a (v := .int _ _) rfl ?_
     refine S_nil ?_
     refine C_seq ?_
     refine C_plan (mdl [(89, 3), (94, 3)]) [0, 1, 2, 3, 5, 6, 7, 8, 4, 9, 10] [_, _, _, _, _, _, _, _, _, _, _] (by kernel_rfl) rfl rfl (by kernel_rfl) ?_
     refine S_m (v := .sl _ _ _) rfl ?_
     refine S_m (v := .int _ _) rfl ?_
     refine S_ix rfl rfl ty_sl_25 ty_sz_41 hF (fun x76 _ hF => ?_)
     refine S_ldQ rfl (p_agg (vs := c_T_scan_Token x76) ty_ag_41 ty_sz_41 rfl rfl) ?_
     refine S_m (v := .sl _ _ _) rfl ?_
     refine S_m (v := .int _ _) rfl ?_
     refine S_ix rfl rfl ty_sl_29 ty_sz_37 hF (fun x77 _ hF => ?_)
     refine S_ldQ rfl (p_agg (vs := c_T_lecternref03_Token x77) ty_ag_37 ty_sz_37 rfl rfl) ?_
     refine S_call (F_lecternlaw03_doc_ok _ hF fun x78 _ hF => ?_) (.cons (.refl _) (.nil))
     refine S_call (F_lecternref03_Same_ok _ hF fun x79 _ hF => ?_) (.cons (.refl _) (.cons (.refl _) (.nil)))
     refine S_un rfl (ev_not _) ?_
     refine S_nil ?_
     refine C_if (b := (!x79)) rfl hF (fun hb7 hF => ?_) (fun hb7 hF => ?_)
     ·
      refine C_seq ?_
      refine C_reg (mdl []) ?_
      refine S_a (v := .bool _) rfl ?_
      refine S_nil ?_
      refine WP_ret ?_
      replace hF := hG1 _ (F_some hF)
      repeat (first | with_reducible refine Exit.sel_ret ?_ | with_reducible refine Exit.blk_ret ?_ | with_reducible refine Exit.jmp_ret ?_)
      refine C_ret (fn := Tryz.f4) rfl (.tmp (v := .bool false) rfl .nil) ?_
      exact ⟨_, _, (.refl _), WH.refl _, _, F_some hF, rfl⟩
     ·
      refine WP_skip ?_
      exact ⟨(), hF, ok, WS.mk' (.cons (.refl _) (.cons (.refl _) (.cons (.refl _) (.cons (.refl _) (.cons (.refl _) (.cons (.refl _) .nil)))))) ok (WO.refl _)⟩
    ·
     rintro _ s' hF ⟨ok, hws⟩
     refine WP_ws hws ?_
     clear hws s'
     refine C_reg (mdl []) ?_
     refine S_bin rfl rfl (ev_add ..) ?_
     refine S_m (v := .int _ _) rfl ?_
     refine S_nil ?_
     refine ih (IntKind.wrap .i64 (i + (1 : Int))) _ hF ?_
     exact ⟨ok, WS.mk' (.cons (.refl _) (.cons (.refl _) (.cons (.refl _) (.cons (.refl _) (.cons (.refl _) (.cons (.refl _) .nil)))))) ok (WO.refl _)⟩
   ·
    refine WP_exit ?_
    simp only [Exit.sel, Exit.blk, Exit.jmp, if_true, if_false, reduceIte, Nat.reduceEqDiff, Nat.succ_ne_zero, Nat.zero_ne_one, Nat.one_ne_zero]
    replace hF := hG1 _ (F_some hF)
    exact ⟨(), hF, ok, WS.mk' (.cons (.refl _) (.cons (.refl _) .nil)) ok (WO.refl _)⟩
 rintro _ s' hF ⟨ok, hws⟩
 refine WP_ws hws ?_
 clear hws s'
 refine C_seq ?_
 refine C_reg (mdl []) ?_
 refine S_m (v := .slx _ _ _) rfl ?_
 refine S_m (v := .sl _ _ _) rfl ?_
 refine S_call (F_lecternref01_Kept_ok _ hF fun z _ hF => ?_) (.cons (.refl _) (.cons (.refl _) .nil))
 refine S_a (v := .bool _) rfl ?_
 refine S_nil ?_
 refine WP_ret ?_
 repeat (first | with_reducible refine Exit.sel_ret ?_ | with_reducible refine Exit.blk_ret ?_ | with_reducible refine Exit.jmp_ret ?_)
 refine C_ret (fn := Tryz.f4) rfl (.tmp (v := .bool z) rfl .nil) ?_
 exact ⟨_, _, (.refl _), WH.refl _, _, F_some hF, rfl⟩
theorem scanKeeps_calls (y : List Int) (o : ∀ n ∈ y, okI .u8 n) (t : (y.map fun _ => 1).sum + 1 ≤ 1048576) (h : Heap) :
  CallsA Tryz.prog 4 [.sl 1 (y.map fun n => [D.int .u8 n]) 0] h fun d _ => d = .bool true := by
 rw [len_sumI] at t
 rw [← bys_c o]
 exact (sk_w (bys y) (G := fun b => b = true) h ⟨true, keeps_all (bys y) (by rw [bys_len]; omega), rfl⟩).mono fun d h' ⟨r, hr, hd⟩ => by subst hr; exact hd
end Go.Proofs.YtfokkdofcekdbaaGreatDoor
