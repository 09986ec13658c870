/- Tokens that are answered as rows that may be changed: the walk of All once more. No condition. -/
import Derived.Test.YtfokkdofcekdbaaGreatDoorWk
import Derived.Test.YtfokkdofcekdbaaGreatDoorEng34
set_option linter.unusedVariables false
set_option linter.unusedSimpArgs false
set_option maxRecDepth 20000
set_option maxHeartbeats 8000000
namespace Go.Proofs.YtfokkdofcekdbaaGreatDoor
theorem F_scan_Plain_ok {β : Type} {f : (List UInt8) → Option β} {G : β → Prop} {R : D → Heap → Prop} {p0 : List UInt8} (h : Heap) (hF : OptP ((F_scan_Plain p0).bind f) G) (hk : ∀ r, F_scan_Plain p0 = some r → OptP (f r) G → R (.sl 1 (List.map c_u8 r) 0) h) : CallsA Tryz.prog 9 [.sl 1 (List.map c_u8 p0) 0] h R := by
 obtain ⟨r0, hr, hF⟩ := F_bind hF
 refine (F_scan_Plain_w (G := fun r => r = r0) p0 h ⟨r0, hr, rfl⟩).mono ?_
 rintro _ _ ⟨r, rfl, rfl, rfl⟩
 exact hk _ hr hF
theorem F_char_Fault_ok {β : Type} {f : Int × Int → Option β} {G : β → Prop} {R : D → Heap → Prop} {p0 : List UInt8} (h : Heap) (hF : OptP ((F_char_Fault p0).bind f) G) (hk : ∀ r, F_char_Fault p0 = some r → OptP (f r) G → R (.tup [.int .i64 r.1, .int .i64 r.2]) h) : CallsA Tryz.prog 14 [.sl 1 (List.map c_u8 p0) 0] h R := by
 obtain ⟨r0, hr, hF⟩ := F_bind hF
 refine (F_char_Fault_w (G := fun r => r = r0) p0 h ⟨r0, hr, rfl⟩).mono ?_
 rintro _ _ ⟨r, rfl, rfl, rfl⟩
 exact hk _ hr hF
theorem F_scan_scanner_token_ok {β : Type} {f0 : Int × T_scan_scanner × T_scan_Token → Option β} {G : β → Prop} {R : D → Heap → Prop} {p0 : T_scan_scanner} {p1 : T_scan_Token} {q0 : Nat} {q1 : Nat} {b1_3 : Nat} (h : Heap) (O : List (Nat × AObj)) (hq0 : q0 ≠ 0) (hq1 : q1 ≠ 0) (zb1_3 : b1_3 = 0 → p1.Pairs = []) (ok : OK h ((q0, .cells [.sl 1 (List.map c_u8 p0.b) 0, .int .i64 p0.at_]) :: (q1, .cells [.int .i64 p1.Kind, .int .i64 p1.At, .str p1.Name, mslO 2 b1_3 p1.Pairs, .str p1.Text, .int .i64 p1.Refs]) :: mo b1_3 c_T_scan_Pair p1.Pairs :: O)) (hF : OptP ((F_scan_scanner_token p0 p1).bind f0) G) (hk : ∀ r b1_3', F_scan_scanner_token p0 p1 = some r → (b1_3' = 0 → r.2.2.Pairs = []) → OK h ((q0, .cells [.sl 1 (List.map c_u8 r.2.1.b) 0, .int .i64 r.2.1.at_]) :: (q1, .cells [.int .i64 r.2.2.Kind, .int .i64 r.2.2.At, .str r.2.2.Name, mslO 2 b1_3' r.2.2.Pairs, .str r.2.2.Text, .int .i64 r.2.2.Refs]) :: mo b1_3' c_T_scan_Pair r.2.2.Pairs :: O) → OptP (f0 r) G → R (.int .i64 r.1) (Hp h ((q0, .cells [.sl 1 (List.map c_u8 r.2.1.b) 0, .int .i64 r.2.1.at_]) :: (q1, .cells [.int .i64 r.2.2.Kind, .int .i64 r.2.2.At, .str r.2.2.Name, mslO 2 b1_3' r.2.2.Pairs, .str r.2.2.Text, .int .i64 r.2.2.Refs]) :: mo b1_3' c_T_scan_Pair r.2.2.Pairs :: O))) : CallsA Tryz.prog 15 [.ptr q0 0, .ptr q1 0] (Hp h ((q0, .cells [.sl 1 (List.map c_u8 p0.b) 0, .int .i64 p0.at_]) :: (q1, .cells [.int .i64 p1.Kind, .int .i64 p1.At, .str p1.Name, mslO 2 b1_3 p1.Pairs, .str p1.Text, .int .i64 p1.Refs]) :: mo b1_3 c_T_scan_Pair p1.Pairs :: O)) R := by
 obtain ⟨r0, hr, hF⟩ := F_bind hF
 refine (F_scan_scanner_token_w (G := fun r => r = r0) p0 p1 q0 q1 b1_3 h O hq0 hq1 zb1_3 ok ⟨r0, hr, rfl⟩).mono ?_
 rintro _ _ ⟨r, rfl, rfl, b1_3', y0, ok', rfl⟩
 exact hk _ _ hr y0 ok' hF
theorem F_lecternlaw03_awake_ok {β : Type} {f : Bool → Option β} {G : β → Prop} {R : D → Heap → Prop} (h : Heap) (hF : OptP ((F_lecternlaw03_awake).bind f) G) (hk : ∀ r, F_lecternlaw03_awake = some r → OptP (f r) G → R (.bool r) h) : CallsA Tryz.prog 5 [] h R := by
 obtain ⟨r0, hr, hF⟩ := F_bind hF
 refine (F_lecternlaw03_awake_w (G := fun r => r = r0)  h ⟨r0, hr, rfl⟩).mono ?_
 rintro _ _ ⟨r, rfl, rfl, rfl⟩
 exact hk _ hr hF
theorem F_scan_All_ok {β : Type} {f : (List T_scan_Token) × Int × Int → Option β} {G : β → Prop} {R : D → Heap → Prop} {p0 : List UInt8} (h : Heap) (hF : OptP ((F_scan_All p0).bind f) G) (hk : ∀ r, F_scan_All p0 = some r → OptP (f r) G → R (.tup [.sl 6 (List.map c_T_scan_Token r.1) 0, .int .i64 r.2.1, .int .i64 r.2.2]) h) : CallsA Tryz.prog 7 [.sl 1 (List.map c_u8 p0) 0] h R := by
 obtain ⟨r0, hr, hF⟩ := F_bind hF
 refine (F_scan_All_w (G := fun r => r = r0) p0 h ⟨r0, hr, rfl⟩).mono ?_
 rintro _ _ ⟨r, rfl, rfl, rfl⟩
 exact hk _ hr hF
theorem ty_sl_29 : slD Tryz.prog 29 = some 37 := by kernel_rfl
def cX (p : T_scan_Token × Nat) : List D := [.int .i64 p.1.Kind, .int .i64 p.1.At, .str p.1.Name, mslO 2 p.2 p.1.Pairs, .str p.1.Text, .int .i64 p.1.Refs]
def hX (X : List (T_scan_Token × Nat)) : List (Nat × AObj) := X.reverse.map fun p => mo p.2 c_T_scan_Pair p.1.Pairs
def zX (X : List (T_scan_Token × Nat)) : Prop := ∀ p ∈ X, p.2 = 0 → p.1.Pairs = []
theorem zX_nil : zX [] := fun p h => by cases h
theorem zX_snoc {X : List (T_scan_Token × Nat)} (h : zX X) {p : T_scan_Token × Nat} (z : p.2 = 0 → p.1.Pairs = []) : zX (X ++ [p]) := by
 intro q hq
 rcases List.mem_append.1 hq with hq | hq
 ·exact h q hq
 ·rw [List.mem_singleton] at hq; subst hq; exact z
theorem hX_snoc (X : List (T_scan_Token × Nat)) (p : T_scan_Token × Nat) : hX (X ++ [p]) = mo p.2 c_T_scan_Pair p.1.Pairs :: hX X := by simp [hX]
theorem WO_to : ∀ {L : List (Nat × AObj)} (O : List (Nat × AObj)), WO (L ++ O) O
 | [], O => WO.refl O
 | _ :: L, O => .drop (WO_to O)
theorem push_perm {x : T_scan_Token × Nat} {A B E M : Nat × AObj} {X : List (T_scan_Token × Nat)} {O : List (Nat × AObj)} :
  (A :: B :: mo x.2 c_T_scan_Pair x.1.Pairs :: E :: M :: (hX X ++ O)).Perm (B :: E :: M :: A :: (hX (X ++ [x]) ++ O)) := by
 rw [hX_snoc]
 generalize mo x.2 c_T_scan_Pair x.1.Pairs = R
 generalize hX X = L
 refine (List.Perm.swap B A _).trans (.cons B ?_)
 refine (List.Perm.cons A ((List.Perm.swap E R _).trans (.cons E (.swap M R _)))).trans ?_
 exact (List.Perm.swap E A _).trans (.cons E (.swap M A _))
theorem app_fst {α : Type} {X : List (α × Nat)} {a : List α} {B : Nat} {y v} {g : Nat} (hX : X.map Prod.fst = a) (h : app B a [y] = some v) : app B X [(y, g)] = some (X ++ [(y, g)]) := by
 subst hX
 unfold app at h ⊢
 split at h
 ·rename_i hc; rw [if_pos (by simpa using hc)]
 ·simp at h
theorem all_own {β : Type} {f : (List T_scan_Token) × Int × Int → Option β} {G : β → Prop} {R : D → Heap → Prop} (p0 : List UInt8) (h : Heap) (O : List (Nat × AObj)) (ok : OK h O) (hF : OptP ((F_scan_All p0).bind f) G)
  (hk : ∀ (r : (List T_scan_Token) × Int × Int) (i : Nat) (X : List (T_scan_Token × Nat)), X.map Prod.fst = r.1 → (i = 0 → X = []) → zX X → OK h (mo i cX X :: (hX X ++ O)) → OptP (f r) G → R (.tup [mslO 6 i X, .int .i64 r.2.1, .int .i64 r.2.2]) (Hp h (mo i cX X :: (hX X ++ O)))) : CallsA Tryz.prog 7 [.sl 1 (List.map c_u8 p0) 0] (Hp h O) R := by
 refine CallsA.ret ?_
 refine C_bodyO Tryz.func7 rfl en_7 Tryz.ntmps7 rfl ?_
 rw [OptP_bind] at hF
 rw [F_scan_All] at hF
 refine C_seq ?_
 refine C_reg (mdl []) ?_
 refine S_a (v := .snil) rfl ?_
 refine S_a (v := .int _ _) rfl ?_
 refine S_a (v := .int _ _) rfl ?_
 refine S_nil ?_
 refine WP_scope ?_
 refine JW_step ?_
 refine C_seq ?_
 refine C_seq ?_
 refine C_reg (mdl []) ?_
 refine S_m (v := .sl _ _ _) rfl ?_
 refine S_lenL rfl ty_sl_22 ?_
 refine S_bin rfl rfl (ev_gtr ..) ?_
 refine S_nil ?_
 refine C_if (b := (decide ((65536 : Int) < (p0.length : Int)))) rfl hF (fun hb1 hF => ?_) (fun hb1 hF => ?_)
 ·
  refine C_seq ?_
  refine C_reg (mdl []) ?_
  refine S_a (v := .snil) rfl ?_
  refine S_a (v := .int _ _) rfl ?_
  refine S_a (v := .int _ _) rfl ?_
  refine S_nil ?_
  refine WP_ret ?_
  repeat (first | with_reducible refine Exit.sel_ret ?_ | with_reducible refine Exit.blk_ret ?_ | with_reducible refine Exit.jmp_ret ?_)
  refine C_ret (fn := Tryz.f7) rfl (.tmp (v := .snil) rfl (.tmp (v := .int .i64 (0 : Int)) rfl (.tmp (v := .int .i64 (6 : Int)) rfl .nil))) ?_
  exact ⟨_, _, (.tupC (.cons (.refl _) (.cons (.refl _) (.cons (.refl _) (.nil))))), (WO.spec (WO.refl O) ok).2.2, hk _ 0 [] rfl (fun _ => rfl) zX_nil (OK_nil (WO.spec (WO.refl O) ok).1) (F_some (G := fun a => OptP (f a) G) hF)⟩
 ·
  refine WP_skip ?_
  refine C_seq ?_
  refine C_reg (mdl [(18, 1)]) ?_
  refine S_m (v := .sl _ _ _) rfl ?_
  refine S_call (F_scan_Plain_ok _ hF fun x2 _ hF => ?_) (.cons (.refl _) (.nil))
  refine S_bld (v := .agg (c_T_scan_scanner (⟨x2, (0 : Int)⟩ : T_scan_scanner))) (b_st ty_zc_47 ty_pl_47 rfl) ?_
  refine S_box1 (cs := [.sl 1 (List.map c_u8 (⟨x2, (0 : Int)⟩ : T_scan_scanner).b) 0, .int .i64 (⟨x2, (0 : Int)⟩ : T_scan_scanner).at_]) ok rfl rfl rfl rfl ?_
  intro i3 hi3 ok
  refine S_a (v := .ptr _ _) rfl ?_
  refine S_nil ?_
  refine C_seq ?_
  refine C_seq ?_
  refine C_reg (mdl []) ?_
  refine S_m (v := .ptr _ _) rfl ?_
  refine S_nilc (v := .ptr _ _) rfl rfl ?_
  refine S_faP rfl ty_fd_47_0 ty_sz_22 ?_
  refine S_ldP (j := 0) ok rfl rfl rfl hi3 (p_one (v := .sl 1 (List.map c_u8 (⟨x2, (0 : Int)⟩ : T_scan_scanner).b) 0) ty_ag_22 ty_sz_22 rfl) ?_
  refine S_call (F_char_Fault_ok _ hF fun x4 _ hF => ?_) (.cons (.refl _) (.nil))
  refine S_m (v := .tup _) rfl ?_
  refine S_ext rfl rfl ?_
  refine S_ext rfl rfl ?_
  refine S_a (v := .int _ _) rfl ?_
  refine S_a (v := .int _ _) rfl ?_
  refine S_nil ?_
  refine C_seq ?_
  refine C_reg (mdl []) ?_
  refine S_m (v := .int _ _) rfl ?_
  refine S_bin rfl rfl (ev_neq ..) ?_
  refine S_nil ?_
  refine C_if (b := (x4.2 != (0 : Int))) rfl hF (fun hb5 hF => ?_) (fun hb5 hF => ?_)
  ·
   refine C_seq ?_
   refine C_reg (mdl []) ?_
   refine S_m (v := .int _ _) rfl ?_
   refine S_m (v := .int _ _) rfl ?_
   refine S_a (v := .snil) rfl ?_
   refine S_a (v := .int _ _) rfl ?_
   refine S_a (v := .int _ _) rfl ?_
   refine S_nil ?_
   refine WP_ret ?_
   repeat (first | with_reducible refine Exit.sel_ret ?_ | with_reducible refine Exit.blk_ret ?_ | with_reducible refine Exit.jmp_ret ?_)
   refine C_ret (fn := Tryz.f7) rfl (.tmp (v := .snil) rfl (.tmp (v := .int .i64 x4.1) rfl (.tmp (v := .int .i64 x4.2) rfl .nil))) ?_
   exact ⟨_, _, (.tupC (.cons (.refl _) (.cons (.refl _) (.cons (.refl _) (.nil))))), (WO.spec (.drop (WO.refl O)) ok).2.2, hk _ 0 [] rfl (fun _ => rfl) zX_nil (OK_nil (WO.spec (.drop (WO.refl O)) ok).1) (F_some (G := fun a => OptP (f a) G) hF)⟩
  ·
   refine WP_skip ?_
   refine C_seq ?_
   refine C_reg (mdl []) ?_
   refine S_a (v := .snil) rfl ?_
   refine S_nilB cX ok (fun ok => ?_)
   refine S_nil ?_
   refine C_seq ?_
   refine C_reg (mdl []) ?_
   refine S_a (v := .int _ _) rfl ?_
   refine S_nil ?_
   refine C_seq ?_
   refine WP_label ?_
   refine C_gloop (σ := (List UInt8) × Int × (List T_scan_Token)) hF (fun (v : (List UInt8) × Int × (List T_scan_Token)) s' => match v with | (a7, a8, a10) => ∃ (g9 : Nat) (X : List (T_scan_Token × Nat)), X.map Prod.fst = a10 ∧ zX X ∧ (g9 = 0 → X = []) ∧ OK h (mo g9 cX X :: (i3, .cells [.sl 1 (List.map c_u8 a7) 0, .int .i64 a8]) :: (hX X ++ O)) ∧ WS s' ⟨mkSl 58 [(5, .ptr i3 0), (8, mslO 6 g9 X)], Hp h (mo g9 cX X :: (i3, .cells [.sl 1 (List.map c_u8 a7) 0, .int .i64 a8]) :: (hX X ++ O))⟩) ?_ ?_
   ·
    have hwo : WO (mo 0 cX [] :: (i3, .cells [.sl 1 (List.map c_u8 (⟨x2, (0 : Int)⟩ : T_scan_scanner).b) 0, .int .i64 (⟨x2, (0 : Int)⟩ : T_scan_scanner).at_]) :: (hX [] ++ O)) (mo 0 cX [] :: (i3, .cells [.sl 1 (List.map c_u8 (⟨x2, (0 : Int)⟩ : T_scan_scanner).b) 0, .int .i64 (⟨x2, (0 : Int)⟩ : T_scan_scanner).at_]) :: (hX [] ++ O)) := (.keep (.keep (WO.refl _)))
    exact ⟨0, [], rfl, zX_nil, (fun _ => rfl), (hwo.spec ok).1, WS.mk' (.cons (.refl _) (.cons (.refl _) .nil)) ok hwo⟩
   ·
    rintro G11 hG12 rec13 ⟨a7, a8, a10⟩ s' ih14 hF ⟨g9, X, hX1, hX2, zg9, ok, hws⟩
    refine WP_ws hws ?_
    clear hws s'
    rw [F_scan_All_l0] at hF
    refine C_seq ?_
    refine C_seq ?_
    refine C_drw (mdl []) (by kernel_rfl) (by kernel_rfl) ?_
    refine S_m (v := .ptr _ _) rfl ?_
    refine S_nilc (v := .ptr _ _) rfl rfl ?_
    refine S_faP rfl ty_fd_47_1 ty_sz_3 ?_
    refine S_ldP (j := 1) ok rfl rfl rfl hi3 (p_one (v := .int .i64 a8) ty_ag_3 ty_sz_3 rfl) ?_
    refine S_m (v := .ptr _ _) rfl ?_
    refine S_nilc (v := .ptr _ _) rfl rfl ?_
    refine S_faP rfl ty_fd_47_0 ty_sz_22 ?_
    refine S_ldP (j := 1) ok rfl rfl rfl hi3 (p_one (v := .sl 1 (List.map c_u8 a7) 0) ty_ag_22 ty_sz_22 rfl) ?_
    refine S_lenL rfl ty_sl_22 ?_
    refine S_bin rfl rfl (ev_eql ..) ?_
    refine S_nil ?_
    refine C_if (b := (a8 == (a7.length : Int))) rfl hF (fun hb15 hF => ?_) (fun hb15 hF => ?_)
    ·
     refine C_seq ?_
     refine C_reg (mdl []) ?_
     refine S_m (v := mslO _ _ _) rfl ?_
     refine S_a (v := mslO _ _ _) rfl ?_
     refine S_a (v := .int _ _) rfl ?_
     refine S_a (v := .int _ _) rfl ?_
     refine S_nil ?_
     refine WP_ret ?_
     replace hF := hG12 _ (F_some hF)
     repeat (first | with_reducible refine Exit.sel_ret ?_ | with_reducible refine Exit.blk_ret ?_ | with_reducible refine Exit.jmp_ret ?_)
     refine C_ret (fn := Tryz.f7) rfl (.tmp (v := mslO 6 g9 X) rfl (.tmp (v := .int .i64 (0 : Int)) rfl (.tmp (v := .int .i64 (0 : Int)) rfl .nil))) ?_
     have hwo : WO (mo g9 cX X :: (i3, .cells [.sl 1 (List.map c_u8 a7) 0, .int .i64 a8]) :: (hX X ++ O)) (mo g9 cX X :: (hX X ++ O)) := (.keep (.drop (WO.refl _)))
     exact ⟨_, _, (.tupC (.cons (.refl _) (.cons (.refl _) (.cons (.refl _) (.nil))))), (hwo.spec ok).2.2, hk (a10, 0, 0) g9 X hX1 zg9 hX2 (hwo.spec ok).1 (F_some (G := fun a => OptP (f a) G) hF)⟩
    ·
     refine WP_skip ?_
     refine C_seq ?_
     refine C_reg (mdl []) ?_
     refine S_m (v := .ptr _ _) rfl ?_
     refine S_nilc (v := .ptr _ _) rfl rfl ?_
     refine S_faP rfl ty_fd_47_1 ty_sz_3 ?_
     refine S_ldP (j := 1) ok rfl rfl rfl hi3 (p_one (v := .int .i64 a8) ty_ag_3 ty_sz_3 rfl) ?_
     refine S_a (v := .int _ _) rfl ?_
     refine S_nil ?_
     refine C_seq ?_
     refine C_reg (mdl [(11, 1)]) ?_
     refine S_m (v := .int _ _) rfl ?_
     refine S_bld (v := .agg [.int .i64 (0 : Int), .int .i64 a8, .str ([] : List UInt8), .snil, .str ([] : List UInt8), .int .i64 (0 : Int)]) (b_st ty_zc_41 ty_pl_41 rfl) ?_
     refine S_all1 ok rfl ty_zc_41 ?_
     intro i17 hi17 ok
     refine S_nilB c_T_scan_Pair ok (fun ok => ?_)
     refine S_st (j := 1) (cs' := [.int .i64 (0 : Int), .int .i64 a8, .str ([] : List UInt8), .snil, .str ([] : List UInt8), .int .i64 (0 : Int)]) ok rfl rfl rfl hi17 rfl ty_sz_41 rfl rfl (fun ok => ?_)
     refine S_nilB c_T_scan_Pair ok (fun ok => ?_)
     refine S_nil ?_
     refine C_seq ?_
     refine C_reg (mdl []) ?_
     refine S_m (v := .ptr _ _) rfl ?_
     obtain ⟨hpe, ok⟩ := Hp_pull 2 ok rfl
     rw [hpe]; clear hpe
     obtain ⟨hpe, ok⟩ := Hp_pull 4 ok rfl
     rw [hpe]; clear hpe
     refine S_call (F_scan_scanner_token_ok (p0 := (⟨a7, a8⟩ : T_scan_scanner)) (p1 := (⟨(0 : Int), a8, ([] : List UInt8), ([] : List T_scan_Pair), ([] : List UInt8), (0 : Int)⟩ : T_scan_Token)) (q0 := i3) (q1 := i17) (b1_3 := 0) h (mo 0 c_T_scan_Pair ([] : List T_scan_Pair) :: mo g9 cX X :: (hX X ++ O)) hi3 hi17 (fun _ => rfl) ok hF fun x20 u21 _ zu21 ok hF => ?_) (.cons (.refl _) (.cons (.refl _) (.nil)))
     refine S_a (v := .int _ _) rfl ?_
     refine S_nil ?_
     refine C_seq ?_
     refine C_seq ?_
     refine C_reg (mdl []) ?_
     refine S_m (v := .int _ _) rfl ?_
     refine S_bin rfl rfl (ev_neq ..) ?_
     refine S_nil ?_
     refine C_if (b := (x20.1 != (0 : Int))) rfl hF (fun hb22 hF => ?_) (fun hb22 hF => ?_)
     ·
      refine C_seq ?_
      refine C_reg (mdl []) ?_
      refine S_m (v := .int _ _) rfl ?_
      refine S_m (v := .int _ _) rfl ?_
      refine S_a (v := .snil) rfl ?_
      refine S_a (v := .int _ _) rfl ?_
      refine S_a (v := .int _ _) rfl ?_
      refine S_nil ?_
      refine WP_ret ?_
      replace hF := hG12 _ (F_some hF)
      repeat (first | with_reducible refine Exit.sel_ret ?_ | with_reducible refine Exit.blk_ret ?_ | with_reducible refine Exit.jmp_ret ?_)
      refine C_ret (fn := Tryz.f7) rfl (.tmp (v := .snil) rfl (.tmp (v := .int .i64 a8) rfl (.tmp (v := .int .i64 x20.1) rfl .nil))) ?_
      exact ⟨_, _, (.tupC (.cons (.refl _) (.cons (.refl _) (.cons (.refl _) (.nil))))), (WO.spec (.drop (.drop (.drop (.drop (.drop (WO_to O)))))) ok).2.2, hk _ 0 [] rfl (fun _ => rfl) zX_nil (OK_nil (WO.spec (.drop (.drop (.drop (.drop (.drop (WO_to O)))))) ok).1) (F_some (G := fun a => OptP (f a) G) hF)⟩
     ·
      refine WP_skip ?_
      refine C_seq ?_
      refine C_reg (mdl [(57, 1)]) ?_
      refine S_m (v := mslO _ _ _) rfl ?_
      refine S_ldP (j := 1) ok rfl rfl rfl hi17 (p_agg (vs := cX (x20.2.2, u21)) ty_ag_41 ty_sz_41 rfl rfl) ?_
      refine S_lit0 (cs := [.int .i64 x20.2.2.Kind, .int .i64 x20.2.2.At, .str x20.2.2.Name, mslO 2 u21 x20.2.2.Pairs, .str x20.2.2.Text, .int .i64 x20.2.2.Refs]) (es := (List.map cX [(x20.2.2, u21)])) rfl ty_el_25 rfl (by kernel_rfl) (by kernel_rfl) ?_
      obtain ⟨v, hv, hF⟩ := F_bind hF
      refine S_appO (β := Unit) (G := fun _ => True) (f := fun _ => some ()) (j := 4) (c := cX) (e := X) (M := [(x20.2.2, u21)]) ok zg9 rfl rfl src_sl (fun _ => rfl) rfl ty_el_25 ty_ni_25 (by rw [app_fst hX1 hv]; exact ⟨(), rfl, trivial⟩) ?_
      intro u zu ok hF2
      obtain ⟨hpe, ok⟩ := Hp_perm ok (push_perm (A := (i3, .cells [.sl 1 (List.map c_u8 x20.2.1.b) 0, .int .i64 x20.2.1.at_])) (B := (i17, .cells [.int .i64 x20.2.2.Kind, .int .i64 x20.2.2.At, .str x20.2.2.Name, mslO 2 u21 x20.2.2.Pairs, .str x20.2.2.Text, .int .i64 x20.2.2.Refs])) (E := (0, .room)) (M := mo u cX (X ++ [(x20.2.2, u21)])) (x := (x20.2.2, u21)) (X := X) (O := O))
      refine S_hpe hpe ?_
      clear hpe
      refine S_a (v := mslO _ _ _) rfl ?_
      refine S_nil ?_
      refine WP_goto ?_
      repeat (first | with_reducible refine Exit.sel_goto ?_ | with_reducible refine Exit.blk_goto ?_)
      refine jmp_goto rfl ?_
      refine ih14 (x20.2.1.b, x20.2.1.at_, a10 ++ [x20.2.2]) _ hF ?_
      have hwo : WO ((i17, .cells [.int .i64 x20.2.2.Kind, .int .i64 x20.2.2.At, .str x20.2.2.Name, mslO 2 u21 x20.2.2.Pairs, .str x20.2.2.Text, .int .i64 x20.2.2.Refs]) :: (0, .room) :: mo u cX (X ++ [(x20.2.2, u21)]) :: (i3, .cells [.sl 1 (List.map c_u8 x20.2.1.b) 0, .int .i64 x20.2.1.at_]) :: (hX (X ++ [(x20.2.2, u21)]) ++ O)) (mo u cX (X ++ [(x20.2.2, u21)]) :: (i3, .cells [.sl 1 (List.map c_u8 x20.2.1.b) 0, .int .i64 x20.2.1.at_]) :: (hX (X ++ [(x20.2.2, u21)]) ++ O)) := (.drop (.drop (WO.refl _)))
      exact ⟨u, X ++ [(x20.2.2, u21)], by rw [List.map_append, hX1]; rfl, zX_snoc hX2 zu21, zu, (hwo.spec ok).1, WS.mk' (.cons (.refl _) (.cons (.refl _) .nil)) ok hwo⟩
end Go.Proofs.YtfokkdofcekdbaaGreatDoor
