/- Short words for the walks. No condition. -/
import Derived.Test.YtfokkdofcekdbaaGreatDoorTy
import Derived.Test.YtfokkdofcekdbaaGreatDoorEng34
import Derived.Test.YtfokkdofcekdbaaGreatDoorPf
set_option linter.unusedVariables false
namespace Go.Proofs.YtfokkdofcekdbaaGreatDoor
structure Bx (n : Prop) : Prop where
 v : n
theorem ws {p : Prop} (h : p := by (repeat (first | with_reducible exact WS.refl _ | refine WS.add ?_ rfl | exact WS.refl _))) : p := h
theorem tw {p : Prop} (h : p := by (refine ⟨_, hF, .hd (.refl _) ?_⟩; repeat (first | with_reducible exact WS.refl _ | refine WS.add ?_ rfl | exact WS.refl _))) : p := h
theorem th {p : Prop} (h : p := by (first | refine .hd (or_t (by assumption)) ?_ | refine .hd (or_f (by assumption)) ?_ | refine .hd (and_t (by assumption)) ?_ | refine .hd (and_f (by assumption)) ?_); (repeat (first | with_reducible exact WS.refl _ | refine WS.add ?_ rfl | exact WS.refl _))) : p := h
theorem rt {p : Prop} (h : p := by (repeat (first | with_reducible refine Exit.sel_ret ?_ | with_reducible refine Exit.blk_ret ?_ | with_reducible refine Exit.jmp_ret ?_)); refine C_ret rfl (by repeat' first | exact .nil | apply RV.tmp (v := .int _ _) rfl | apply RV.tmp (v := .bool _) rfl | apply RV.tmp (v := .str _) rfl | apply RV.tmp (v := .sl _ _ _) rfl | apply RV.tmp (v := .agg _) rfl | apply RV.tmp (v := ifD _) rfl | apply RV.tmp (v := mslO _ _ _) rfl) ?_; first | exact ⟨_, _, .refl _, ok.wh, _, F_some hF, rfl, rfl⟩ | exact ⟨_, _, .refl _, WH.refl _, _, F_some hF, rfl⟩ | (refine ⟨_, _, ?_, ok.wh, _, F_some hF, rfl, rfl⟩; repeat' first | exact .refl _ | exact .zero _ _ _ | exact .nil _ | exact .nil | refine .tupC ?_ | refine .aggC ?_ | refine Wd.toE (.aggC ?_) (none_eq _) | refine .cons ?_ ?_) | (refine ⟨_, _, ?_, WH.refl _, _, F_some hF, rfl⟩; repeat' first | exact .refl _ | exact .zero _ _ _ | exact .nil _ | exact .nil | refine .tupC ?_ | refine .aggC ?_ | refine Wd.toE (.aggC ?_) (none_eq _) | refine .cons ?_ ?_)) : p := h
theorem oy {h : Heap} {O O' : List (Nat × AObj)} (ok : OK h O) (w : WO O O' := by (repeat' first | exact .refl _ | refine .keep ?_ | refine .drop ?_ | exact .nil)) : OK h O' := (w.spec ok).1
theorem hy {h : Heap} {O O' : List (Nat × AObj)} (ok : OK h O) (w : WO O O' := by (repeat' first | exact .refl _ | refine .keep ?_ | refine .drop ?_ | exact .nil)) : WH (Hp h O) (Hp h O') := (w.spec ok).2.2
theorem wy {n : Nat} {l l' : List (Nat × D)} {h : Heap} {O O' : List (Nat × AObj)} (ok : OK h O) (hl : WL n l l' := by (repeat' first | exact .refl _ | exact .zero _ _ _ | exact .nil _ | exact .nil | refine .tupC ?_ | refine .aggC ?_ | refine Wd.toE (.aggC ?_) (none_eq _) | refine .cons ?_ ?_)) (w : WO O O' := by (repeat' first | exact .refl _ | refine .keep ?_ | refine .drop ?_ | exact .nil)) : WS ⟨mkSl n l, Hp h O⟩ ⟨mkSl n l', Hp h O'⟩ := WS.mk' hl ok w
theorem okT {ρ β : Type} {P : Program} {g : FuncId} {ds : List D} {H : Heap} {X : Option ρ} {Q : ρ → D → Heap → Prop} {f : ρ → Option β} {G : β → Prop} {R : D → Heap → Prop} (w : ∀ G : ρ → Prop, OptP X G → CallsA P g ds H fun d h' => ∃ r, G r ∧ Q r d h') (hF : OptP (X.bind f) G) (hk : ∀ r d h', X = some r → Q r d h' → OptP (f r) G → R d h') : CallsA P g ds H R := by
 obtain ⟨r0, hr, hF⟩ := F_bind hF
 refine (w (fun r => r = r0) ⟨r0, hr, rfl⟩).mono ?_
 rintro d h' ⟨r, rfl, hq⟩
 exact hk _ _ _ hr hq hF
theorem xr {g n : Prop} (h : n) (s : Bx n → g := by (intro h; (repeat (first | with_reducible refine Exit.sel_ret ?_ | with_reducible refine Exit.blk_ret ?_ | with_reducible refine Exit.jmp_ret ?_)); exact h.v)) : g := s ⟨h⟩
theorem rr {g n : Prop} (h : n) (s : Bx n → g := by (intro h; (repeat (first | with_reducible refine Exit.sel_ret ?_ | with_reducible refine Exit.blk_ret ?_ | with_reducible refine Exit.jmp_ret ?_)); refine C_ret rfl (by repeat' first | exact .nil | apply RV.tmp (v := .int _ _) rfl | apply RV.tmp (v := .bool _) rfl | apply RV.tmp (v := .str _) rfl | apply RV.tmp (v := .sl _ _ _) rfl | apply RV.tmp (v := .agg _) rfl | apply RV.tmp (v := ifD _) rfl | apply RV.tmp (v := mslO _ _ _) rfl) ?_; exact h.v)) : g := s ⟨h⟩
theorem cl {P : Program} {md : Nat → Nat} {w : Bool} {ops : Array Oper} {os : List Oper} {k : St → Prop} {n : Nat} {l : List (Nat × D)} {h : Heap} {d : Nat} {ty : TypeId} {pos : String} {af : Array Edge} {g : FuncId} {args : Array Operand} {ts : Array TypeId} {ds : List D} (hc : CallsA P g ds h fun v h' => seqQ P md w ops os ⟨mkSl n ((d, v) :: l), h'⟩ k) (hw : WdC (args.toList.map (opL n l)) ds := by (repeat' first | exact .refl _ | exact .zero _ _ _ | exact .nil _ | exact .nil | refine .tupC ?_ | refine .aggC ?_ | refine Wd.toE (.aggC ?_) (none_eq _) | refine .cons ?_ ?_)) : seqQ P md w ops (⟨some d, .call ⟨.value (.func g), args, ts⟩, ty, pos, af, none⟩ :: os) ⟨mkSl n l, h⟩ k := S_call hc hw
theorem Zqaa {g n : Prop} (h : n) (s : Bx n → g := by (intro h; refine S_nil ?_; exact h.v)) : g := s ⟨h⟩
theorem Zqab {g n : Prop} (h : n) (s : Bx n → g := by (intro h; refine C_seq ?_; exact h.v)) : g := s ⟨h⟩
theorem Zqac {g n : Prop} (h : n) (s : Bx n → g := by (intro h; refine C_reg (mdl []) ?_; exact h.v)) : g := s ⟨h⟩
theorem Zqad {g n : Prop} (h : n) (s : Bx n → g := by (intro h; refine S_offD ?_; exact h.v)) : g := s ⟨h⟩
theorem Zqae {g n : Prop} (h : n) (s : Bx n → g := by (intro h; refine S_on rfl rfl (by assumption) ?_; exact h.v)) : g := s ⟨h⟩
theorem Zqaf {g n : Prop} (h : n) (s : Bx n → g := by (intro h; refine S_in ?_; exact h.v)) : g := s ⟨h⟩
theorem Zqag {g n : Prop} (h : n) (s : Bx n → g := by (intro h; refine S_off rfl rfl (by assumption) ?_; exact h.v)) : g := s ⟨h⟩
theorem Zqah {g n : Prop} (h : n) (s : Bx n → g := by (intro h; refine S_m (v := .int _ _) rfl ?_; exact h.v)) : g := s ⟨h⟩
theorem Zqai {g n : Prop} (h : n) (s : Bx n → g := by (intro h; refine S_a (v := .int _ _) rfl ?_; exact h.v)) : g := s ⟨h⟩
theorem Zqaj {g n : Prop} (h : n) (s : Bx n → g := by (intro h; refine WP_ret ?_; exact h.v)) : g := s ⟨h⟩
theorem Zqak {g n : Prop} (h : n) (s : Bx n → g := by (intro h; refine S_m (v := .str _) rfl ?_; exact h.v)) : g := s ⟨h⟩
theorem Zqal {g n : Prop} (h : n) (s : Bx n → g := by (intro h; refine WP_skip ?_; exact h.v)) : g := s ⟨h⟩
theorem Zqam {g n : Prop} (h : n) (s : Bx n → g := by (intro h; refine S_m (v := .bool _) rfl ?_; exact h.v)) : g := s ⟨h⟩
theorem Zqan {g n : Prop} (h : n) (s : Bx n → g := by (intro h; refine S_pickT (v := .bool _) rfl (by assumption) rfl ?_; exact h.v)) : g := s ⟨h⟩
theorem Zqao {g n : Prop} (h : n) (s : Bx n → g := by (intro h; refine S_pickF (v := .bool _) rfl (by assumption) rfl ?_; exact h.v)) : g := s ⟨h⟩
theorem Zqap {g n : Prop} (h : n) (s : Bx n → g := by (intro h; refine S_a (v := .bool _) rfl ?_; exact h.v)) : g := s ⟨h⟩
theorem Zqaq {g n : Prop} (h : n) (s : Bx n → g := by (intro h; refine S_m (v := .ptr _ _) rfl ?_; exact h.v)) : g := s ⟨h⟩
theorem Zqar {g n : Prop} (h : n) (s : Bx n → g := by (intro h; refine S_ext rfl rfl ?_; exact h.v)) : g := s ⟨h⟩
theorem Zqas {g n : Prop} (h : n) (s : Bx n → g := by (intro h; refine S_m (v := .sl _ _ _) rfl ?_; exact h.v)) : g := s ⟨h⟩
theorem Zqat {g n : Prop} (h : n) (s : Bx n → g := by (intro h; refine S_bin rfl rfl (ev_add ..) ?_; exact h.v)) : g := s ⟨h⟩
theorem Zqau {g n : Prop} (h : n) (s : Bx n → g := by (intro h; refine S_bin rfl rfl (ev_eql ..) ?_; exact h.v)) : g := s ⟨h⟩
theorem Zqav {g n : Prop} (h : n) (s : Bx n → g := by (intro h; refine S_off2 rfl rfl ?_; exact h.v)) : g := s ⟨h⟩
theorem Zqaw {g n : Prop} (h : n) (s : Bx n → g := by (intro h; refine WP_block ?_; exact h.v)) : g := s ⟨h⟩
theorem Zqax {g n : Prop} (h : n) (s : Bx n → g := by (intro h; refine S_nilc (v := .ptr _ _) rfl rfl ?_; exact h.v)) : g := s ⟨h⟩
theorem Zqay {g n : Prop} (h : n) (s : Bx n → g := by (intro h; refine S_bin rfl rfl (ev_lss ..) ?_; exact h.v)) : g := s ⟨h⟩
theorem Zqaz {g n : Prop} (h : n) (s : Bx n → g := by (intro h; refine S_a (v := .str _) rfl ?_; exact h.v)) : g := s ⟨h⟩
theorem Zqa0 {g n : Prop} (h : n) (s : Bx n → g := by (intro h; refine S_bin rfl rfl (ev_geq ..) ?_; exact h.v)) : g := s ⟨h⟩
theorem Zqa1 {g n : Prop} (h : n) (s : Bx n → g := by (intro h; refine S_bin rfl rfl (ev_neq ..) ?_; exact h.v)) : g := s ⟨h⟩
theorem Zqa2 {g n : Prop} (h : n) (s : Bx n → g := by (intro h; refine S_faP rfl ty_fd_47_1 ty_sz_3 ?_; exact h.v)) : g := s ⟨h⟩
theorem Zqa3 {g n : Prop} (h : n) (s : Bx n → g := by (intro h; refine WP_exit ?_; exact h.v)) : g := s ⟨h⟩
theorem Zqa4 {g n : Prop} (h : n) (s : Bx n → g := by (intro h; simp only [Exit.sel, Exit.blk, Exit.jmp, if_true, if_false, reduceIte, Nat.reduceEqDiff, Nat.succ_ne_zero, Nat.zero_ne_one, Nat.one_ne_zero]; exact h.v)) : g := s ⟨h⟩
theorem Zqa5 {g n : Prop} (h : n) (s : Bx n → g := by (intro h; refine S_m (v := .tup _) rfl ?_; exact h.v)) : g := s ⟨h⟩
theorem Zqa6 {g n : Prop} (h : n) (s : Bx n → g := by (intro h; refine S_un rfl (ev_not _) ?_; exact h.v)) : g := s ⟨h⟩
theorem Zqa7 {g n : Prop} (h : n) (s : Bx n → g := by (intro h; refine S_lenL rfl ty_sl_22 ?_; exact h.v)) : g := s ⟨h⟩
theorem Zqa8 {g n : Prop} (h : n) (s : Bx n → g := by (intro h; refine S_bin rfl rfl (ev_leq ..) ?_; exact h.v)) : g := s ⟨h⟩
theorem Zqa9 {g n : Prop} (h : n) (s : Bx n → g := by (intro h; refine S_lenS rfl ty_st_9 ?_; exact h.v)) : g := s ⟨h⟩
theorem Zqba {g n : Prop} (h : n) (s : Bx n → g := by (intro h; refine S_bin rfl rfl e_seql ?_; exact h.v)) : g := s ⟨h⟩
theorem Zqbb {g n : Prop} (h : n) (s : Bx n → g := by (intro h; refine S_a (v := .sl _ _ _) rfl ?_; exact h.v)) : g := s ⟨h⟩
theorem Zqbc {g n : Prop} (h : n) (s : Bx n → g := by (intro h; refine S_ldQ rfl (p_one ty_ag_5 ty_sz_5 rfl) ?_; exact h.v)) : g := s ⟨h⟩
theorem Zqbd {g n : Prop} (h : n) (s : Bx n → g := by (intro h; refine S_ldP (j := 0) ok rfl rfl rfl (by assumption) (p_one (v := .int _ _) ty_ag_3 ty_sz_3 rfl) ?_; exact h.v)) : g := s ⟨h⟩
theorem Zqbe {g n : Prop} (h : n) (s : Bx n → g := by (intro h; refine S_conv rfl (e_cbs ty_sl_22 ty_ki_5 ty_st_9) ?_; exact h.v)) : g := s ⟨h⟩
theorem Zqbf {g n : Prop} (h : n) (s : Bx n → g := by (intro h; refine S_bin rfl rfl (ev_sub ..) ?_; exact h.v)) : g := s ⟨h⟩
theorem Zqbg {g n : Prop} (h : n) (s : Bx n → g := by (intro h; refine S_bin rfl rfl (ev_gtr ..) ?_; exact h.v)) : g := s ⟨h⟩
theorem Zqbh {g n : Prop} (h : n) (s : Bx n → g := by (intro h; refine S_faP rfl ty_fd_47_0 ty_sz_22 ?_; exact h.v)) : g := s ⟨h⟩
theorem Zqbi {g n : Prop} (h : n) (s : Bx n → g := by (intro h; refine S_ldP (j := 0) ok rfl rfl rfl (by assumption) (p_one (v := .sl _ _ _) ty_ag_22 ty_sz_22 rfl) ?_; exact h.v)) : g := s ⟨h⟩
theorem Zqbj {g n : Prop} (h : n) (s : Bx n → g := by (intro h; refine S_m (v := mslO _ _ _) rfl ?_; exact h.v)) : g := s ⟨h⟩
theorem Zqbk {g n : Prop} (h : n) (s : Bx n → g := by (intro h; refine S_byt0 rfl rfl ty_sl_22 ty_st_9 ty_ki_5 ?_; exact h.v)) : g := s ⟨h⟩
theorem Zqbl {g n : Prop} (h : n) (s : Bx n → g := by (intro h; refine S_ldQ rfl (p_one ty_ag_3 ty_sz_3 rfl) ?_; exact h.v)) : g := s ⟨h⟩
theorem Zqbm {g n : Prop} (h : n) (s : Bx n → g := by (intro h; refine S_faP rfl ty_fd_41_0 ty_sz_3 ?_; exact h.v)) : g := s ⟨h⟩
theorem Zqbn {g n : Prop} (h : n) (s : Bx n → g := by (intro h; refine S_ldQ rfl (p_one ty_ag_9 ty_sz_9 rfl) ?_; exact h.v)) : g := s ⟨h⟩
theorem Zqbo {g n : Prop} (h : n) (s : Bx n → g := by (intro h; refine S_conv rfl (e_ci ty_ki_3 ty_un_5) ?_; exact h.v)) : g := s ⟨h⟩
theorem Zqbp {g n : Prop} (h : n) (s : Bx n → g := by (intro h; refine S_bin rfl rfl e_sneq ?_; exact h.v)) : g := s ⟨h⟩
theorem Zqbq {g n : Prop} (h : n) (s : Bx n → g := by (intro h; refine S_faP rfl ty_fd_37_3 ty_sz_35 ?_; exact h.v)) : g := s ⟨h⟩
theorem Zqbr {g n : Prop} (h : n) (s : Bx n → g := by (intro h; refine S_a (v := mslO _ _ _) rfl ?_; exact h.v)) : g := s ⟨h⟩
theorem Zqbs {g n : Prop} (h : n) (s : Bx n → g := by (intro h; refine S_faP rfl ty_fd_41_3 ty_sz_39 ?_; exact h.v)) : g := s ⟨h⟩
theorem Zqbt {g n : Prop} (h : n) (s : Bx n → g := by (intro h; refine S_faQ rfl ty_fd_37_3 ty_sz_35 rfl ?_; exact h.v)) : g := s ⟨h⟩
theorem Zqbu {g n : Prop} (h : n) (s : Bx n → g := by (intro h; refine S_ldQ rfl (p_one ty_ag_35 ty_sz_35 rfl) ?_; exact h.v)) : g := s ⟨h⟩
theorem Zqbv {g n : Prop} (h : n) (s : Bx n → g := by (intro h; refine S_ldP (j := 1) ok rfl rfl rfl (by assumption) (p_one (v := .int _ _) ty_ag_3 ty_sz_3 rfl) ?_; exact h.v)) : g := s ⟨h⟩
theorem Zqbw {g n : Prop} (h : n) (s : Bx n → g := by (intro h; refine S_faP rfl ty_fd_44_0 ty_sz_9 ?_; exact h.v)) : g := s ⟨h⟩
theorem Zqbx {g n : Prop} (h : n) (s : Bx n → g := by (intro h; refine S_ldP (j := 0) ok rfl rfl rfl (by assumption) (p_one (v := .str _) ty_ag_9 ty_sz_9 rfl) ?_; exact h.v)) : g := s ⟨h⟩
theorem Zqby {g n : Prop} (h : n) (s : Bx n → g := by (intro h; refine S_conv rfl (e_ci ty_ki_21 ty_un_3) ?_; exact h.v)) : g := s ⟨h⟩
theorem Zqbz {g n : Prop} (h : n) (s : Bx n → g := by (intro h; refine S_ldP (j := 1) ok rfl rfl rfl (by assumption) (p_one (v := .sl _ _ _) ty_ag_35 ty_sz_35 rfl) ?_; exact h.v)) : g := s ⟨h⟩
theorem Zqb0 {g n : Prop} (h : n) (s : Bx n → g := by (intro h; refine S_ldP (j := 2) ok rfl rfl rfl (by assumption) (p_one (v := mslO _ _ _) ty_ag_39 ty_sz_39 rfl) ?_; exact h.v)) : g := s ⟨h⟩
theorem Zqb1 {g n : Prop} (h : n) (s : Bx n → g := by (intro h; refine Zqab ?_; refine Zqac ?_; exact h.v)) : g := s ⟨h⟩
theorem Zqb2 {g n : Prop} (h : n) (s : Bx n → g := by (intro h; refine Zqae ?_; refine Zqaf ?_; exact h.v)) : g := s ⟨h⟩
theorem Zqb3 {g n : Prop} (h : n) (s : Bx n → g := by (intro h; refine Zqag ?_; refine Zqad ?_; exact h.v)) : g := s ⟨h⟩
theorem Zqb4 {g n : Prop} (h : n) (s : Bx n → g := by (intro h; refine Zqaa ?_; refine Zqb2 ?_; exact h.v)) : g := s ⟨h⟩
theorem Zqb5 {g n : Prop} (h : n) (s : Bx n → g := by (intro h; refine Zqai ?_; refine Zqaa ?_; exact h.v)) : g := s ⟨h⟩
theorem Zqb6 {g n : Prop} (h : n) (s : Bx n → g := by (intro h; refine Zqb3 ?_; refine Zqb3 ?_; exact h.v)) : g := s ⟨h⟩
theorem Zqb7 {g n : Prop} (h : n) (s : Bx n → g := by (intro h; refine Zqb1 ?_; refine Zqah ?_; exact h.v)) : g := s ⟨h⟩
theorem Zqb8 {g n : Prop} (h : n) (s : Bx n → g := by (intro h; refine Zqan ?_; refine Zqaa ?_; exact h.v)) : g := s ⟨h⟩
theorem Zqb9 {g n : Prop} (h : n) (s : Bx n → g := by (intro h; refine Zqao ?_; refine Zqaa ?_; exact h.v)) : g := s ⟨h⟩
theorem Zqca {g n : Prop} (h : n) (s : Bx n → g := by (intro h; refine Zqb5 ?_; refine Zqaj ?_; exact h.v)) : g := s ⟨h⟩
theorem Zqcb {g n : Prop} (h : n) (s : Bx n → g := by (intro h; refine Zqap ?_; refine Zqaa ?_; exact h.v)) : g := s ⟨h⟩
theorem Zqcc {g n : Prop} (h : n) (s : Bx n → g := by (intro h; refine Zqah ?_; refine Zqb4 ?_; exact h.v)) : g := s ⟨h⟩
theorem Zqcd {g n : Prop} (h : n) (s : Bx n → g := by (intro h; refine Zqb1 ?_; refine Zqak ?_; exact h.v)) : g := s ⟨h⟩
theorem Zqce {g n : Prop} (h : n) (s : Bx n → g := by (intro h; refine Zqb2 ?_; refine Zqcc ?_; exact h.v)) : g := s ⟨h⟩
theorem Zqcf {g n : Prop} (h : n) (s : Bx n → g := by (intro h; refine Zqai ?_; refine Zqca ?_; exact h.v)) : g := s ⟨h⟩
theorem Zqcg {g n : Prop} (h : n) (s : Bx n → g := by (intro h; refine Zqav ?_; refine Zqad ?_; exact h.v)) : g := s ⟨h⟩
theorem Zqch {g n : Prop} (h : n) (s : Bx n → g := by (intro h; refine Zqab ?_; refine Zqb7 ?_; exact h.v)) : g := s ⟨h⟩
theorem Zqci {g n : Prop} (h : n) (s : Bx n → g := by (intro h; refine Zqaa ?_; refine Zqb8 ?_; exact h.v)) : g := s ⟨h⟩
theorem Zqcj {g n : Prop} (h : n) (s : Bx n → g := by (intro h; refine Zqb1 ?_; refine Zqaq ?_; exact h.v)) : g := s ⟨h⟩
theorem Zqck {g n : Prop} (h : n) (s : Bx n → g := by (intro h; refine Zqb6 ?_; refine Zqb6 ?_; exact h.v)) : g := s ⟨h⟩
theorem Zqcl {g n : Prop} (h : n) (s : Bx n → g := by (intro h; refine Zqcb ?_; refine Zqaj ?_; exact h.v)) : g := s ⟨h⟩
theorem Zqcm {g n : Prop} (h : n) (s : Bx n → g := by (intro h; refine Zqah ?_; refine Zqat ?_; exact h.v)) : g := s ⟨h⟩
theorem Zqcn {g n : Prop} (h : n) (s : Bx n → g := by (intro h; refine Zqai ?_; refine Zqb5 ?_; exact h.v)) : g := s ⟨h⟩
theorem Zqco {g n : Prop} (h : n) (s : Bx n → g := by (intro h; refine Zqar ?_; refine Zqar ?_; exact h.v)) : g := s ⟨h⟩
theorem Zqcp {g n : Prop} (h : n) (s : Bx n → g := by (intro h; refine Zqaa ?_; refine Zqb9 ?_; exact h.v)) : g := s ⟨h⟩
theorem Zqcq {g n : Prop} (h : n) (s : Bx n → g := by (intro h; refine Zqax ?_; refine Zqa2 ?_; exact h.v)) : g := s ⟨h⟩
theorem Zqcr {g n : Prop} (h : n) (s : Bx n → g := by (intro h; refine Zqak ?_; refine Zqb4 ?_; exact h.v)) : g := s ⟨h⟩
theorem Zqcs {g n : Prop} (h : n) (s : Bx n → g := by (intro h; refine Zqa3 ?_; refine Zqa4 ?_; exact h.v)) : g := s ⟨h⟩
theorem Zqct {g n : Prop} (h : n) (s : Bx n → g := by (intro h; refine Zqcd ?_; refine Zqah ?_; exact h.v)) : g := s ⟨h⟩
theorem Zqcu {g n : Prop} (h : n) (s : Bx n → g := by (intro h; refine Zqb1 ?_; refine Zqas ?_; exact h.v)) : g := s ⟨h⟩
theorem Zqcv {g n : Prop} (h : n) (s : Bx n → g := by (intro h; refine Zqb6 ?_; refine Zqb9 ?_; exact h.v)) : g := s ⟨h⟩
theorem Zqcw {g n : Prop} (h : n) (s : Bx n → g := by (intro h; refine Zqa5 ?_; refine Zqco ?_; exact h.v)) : g := s ⟨h⟩
theorem Zqcx {g n : Prop} (h : n) (s : Bx n → g := by (intro h; refine Zqb1 ?_; refine Zqb5 ?_; exact h.v)) : g := s ⟨h⟩
theorem Zqcy {g n : Prop} (h : n) (s : Bx n → g := by (intro h; refine Zqcg ?_; refine Zqcg ?_; exact h.v)) : g := s ⟨h⟩
theorem Zqcz {g n : Prop} (h : n) (s : Bx n → g := by (intro h; refine Zqb6 ?_; refine Zqb3 ?_; exact h.v)) : g := s ⟨h⟩
theorem Zqc0 {g n : Prop} (h : n) (s : Bx n → g := by (intro h; refine Zqay ?_; refine Zqaa ?_; exact h.v)) : g := s ⟨h⟩
theorem Zqc1 {g n : Prop} (h : n) (s : Bx n → g := by (intro h; refine Zqb2 ?_; refine Zqcr ?_; exact h.v)) : g := s ⟨h⟩
theorem Zqc2 {g n : Prop} (h : n) (s : Bx n → g := by (intro h; refine Zqal ?_; refine Zqab ?_; exact h.v)) : g := s ⟨h⟩
theorem Zqc3 {g n : Prop} (h : n) (s : Bx n → g := by (intro h; refine Zqas ?_; refine Zqb4 ?_; exact h.v)) : g := s ⟨h⟩
theorem Zqc4 {g n : Prop} (h : n) (s : Bx n → g := by (intro h; refine Zqce ?_; refine Zqa8 ?_; exact h.v)) : g := s ⟨h⟩
theorem Zqc5 {g n : Prop} (h : n) (s : Bx n → g := by (intro h; refine Zqam ?_; refine Zqaa ?_; exact h.v)) : g := s ⟨h⟩
theorem Zqc6 {g n : Prop} (h : n) (s : Bx n → g := by (intro h; refine Zqa0 ?_; refine Zqam ?_; exact h.v)) : g := s ⟨h⟩
theorem Zqc7 {g n : Prop} (h : n) (s : Bx n → g := by (intro h; refine Zqb8 ?_; refine Zqaa ?_; exact h.v)) : g := s ⟨h⟩
theorem Zqc8 {g n : Prop} (h : n) (s : Bx n → g := by (intro h; refine Zqb9 ?_; refine Zqaa ?_; exact h.v)) : g := s ⟨h⟩
theorem Zqc9 {g n : Prop} (h : n) (s : Bx n → g := by (intro h; refine Zqb6 ?_; refine Zqb8 ?_; exact h.v)) : g := s ⟨h⟩
theorem Zqda {g n : Prop} (h : n) (s : Bx n → g := by (intro h; refine Zqce ?_; refine Zqau ?_; exact h.v)) : g := s ⟨h⟩
theorem Zqdb {g n : Prop} (h : n) (s : Bx n → g := by (intro h; refine Zqb1 ?_; refine Zqcb ?_; exact h.v)) : g := s ⟨h⟩
theorem Zqdc {g n : Prop} (h : n) (s : Bx n → g := by (intro h; refine Zqb1 ?_; refine Zqcl ?_; exact h.v)) : g := s ⟨h⟩
theorem Zqdd {g n : Prop} (h : n) (s : Bx n → g := by (intro h; refine Zqa1 ?_; refine Zqaa ?_; exact h.v)) : g := s ⟨h⟩
theorem Zqde {g n : Prop} (h : n) (s : Bx n → g := by (intro h; refine Zqcq ?_; refine Zqbd ?_; exact h.v)) : g := s ⟨h⟩
theorem Zqdf {g n : Prop} (h : n) (s : Bx n → g := by (intro h; refine Zqck ?_; refine Zqb3 ?_; exact h.v)) : g := s ⟨h⟩
theorem Zqdg {g n : Prop} (h : n) (s : Bx n → g := by (intro h; refine Zqak ?_; refine Zqa9 ?_; exact h.v)) : g := s ⟨h⟩
theorem Zqdh {g n : Prop} (h : n) (s : Bx n → g := by (intro h; refine Zqb2 ?_; refine Zqc3 ?_; exact h.v)) : g := s ⟨h⟩
theorem Zqdi {g n : Prop} (h : n) (s : Bx n → g := by (intro h; refine Zqaa ?_; refine Zqab ?_; exact h.v)) : g := s ⟨h⟩
theorem Zqdj {g n : Prop} (h : n) (s : Bx n → g := by (intro h; refine Zqac ?_; refine Zqah ?_; exact h.v)) : g := s ⟨h⟩
theorem Zqdk {g n : Prop} (h : n) (s : Bx n → g := by (intro h; refine Zqcm ?_; refine Zqb5 ?_; exact h.v)) : g := s ⟨h⟩
theorem Zqdl {g n : Prop} (h : n) (s : Bx n → g := by (intro h; refine Zqb4 ?_; refine Zqa6 ?_; exact h.v)) : g := s ⟨h⟩
theorem Zqdm {g n : Prop} (h : n) (s : Bx n → g := by (intro h; refine Zqc4 ?_; refine Zqci ?_; exact h.v)) : g := s ⟨h⟩
theorem Zqdn {g n : Prop} (h : n) (s : Bx n → g := by (intro h; refine Zqb4 ?_; refine Zqau ?_; exact h.v)) : g := s ⟨h⟩
theorem Zqdo {g n : Prop} (h : n) (s : Bx n → g := by (intro h; refine Zqb1 ?_; refine Zqca ?_; exact h.v)) : g := s ⟨h⟩
theorem Zqdp {g n : Prop} (h : n) (s : Bx n → g := by (intro h; refine Zqb4 ?_; refine Zqc5 ?_; exact h.v)) : g := s ⟨h⟩
theorem Zqdq {g n : Prop} (h : n) (s : Bx n → g := by (intro h; refine Zqb2 ?_; refine Zqc8 ?_; exact h.v)) : g := s ⟨h⟩
theorem Zqdr {g n : Prop} (h : n) (s : Bx n → g := by (intro h; refine Zqau ?_; refine Zqam ?_; exact h.v)) : g := s ⟨h⟩
theorem Zqds {g n : Prop} (h : n) (s : Bx n → g := by (intro h; refine Zqcn ?_; refine Zqch ?_; exact h.v)) : g := s ⟨h⟩
theorem Zqdt {g n : Prop} (h : n) (s : Bx n → g := by (intro h; refine Zqcw ?_; refine Zqar ?_; exact h.v)) : g := s ⟨h⟩
theorem Zqdu {g n : Prop} (h : n) (s : Bx n → g := by (intro h; refine Zqb5 ?_; refine Zqch ?_; exact h.v)) : g := s ⟨h⟩
theorem Zqdv {g n : Prop} (h : n) (s : Bx n → g := by (intro h; refine Zqb4 ?_; refine Zqc7 ?_; exact h.v)) : g := s ⟨h⟩
theorem Zqdw {g n : Prop} (h : n) (s : Bx n → g := by (intro h; refine Zqas ?_; refine Zqa7 ?_; exact h.v)) : g := s ⟨h⟩
theorem Zqdx {g n : Prop} (h : n) (s : Bx n → g := by (intro h; refine Zqaa ?_; refine Zqcj ?_; exact h.v)) : g := s ⟨h⟩
theorem Zqdy {g n : Prop} (h : n) (s : Bx n → g := by (intro h; refine Zqau ?_; refine Zqaa ?_; exact h.v)) : g := s ⟨h⟩
theorem Zqdz {g n : Prop} (h : n) (s : Bx n → g := by (intro h; refine Zqcz ?_; refine Zqcy ?_; exact h.v)) : g := s ⟨h⟩
theorem Zqd0 {g n : Prop} (h : n) (s : Bx n → g := by (intro h; refine Zqbb ?_; refine Zqaa ?_; exact h.v)) : g := s ⟨h⟩
theorem Zqd1 {g n : Prop} (h : n) (s : Bx n → g := by (intro h; refine Zqah ?_; refine Zqaa ?_; exact h.v)) : g := s ⟨h⟩
theorem Zqd2 {g n : Prop} (h : n) (s : Bx n → g := by (intro h; refine Zqac ?_; refine Zqdk ?_; exact h.v)) : g := s ⟨h⟩
theorem Zqd3 {g n : Prop} (h : n) (s : Bx n → g := by (intro h; refine Zqb7 ?_; refine Zqc6 ?_; exact h.v)) : g := s ⟨h⟩
theorem Zqd4 {g n : Prop} (h : n) (s : Bx n → g := by (intro h; refine Zqb4 ?_; refine Zqbc ?_; exact h.v)) : g := s ⟨h⟩
theorem Zqd5 {g n : Prop} (h : n) (s : Bx n → g := by (intro h; refine Zqb7 ?_; refine Zqah ?_; exact h.v)) : g := s ⟨h⟩
theorem Zqd6 {g n : Prop} (h : n) (s : Bx n → g := by (intro h; refine Zqb1 ?_; refine Zqcf ?_; exact h.v)) : g := s ⟨h⟩
theorem Zqd7 {g n : Prop} (h : n) (s : Bx n → g := by (intro h; refine Zqda ?_; refine Zqcp ?_; exact h.v)) : g := s ⟨h⟩
theorem Zqd8 {g n : Prop} (h : n) (s : Bx n → g := by (intro h; refine Zqcu ?_; refine Zqah ?_; exact h.v)) : g := s ⟨h⟩
theorem Zqd9 {g n : Prop} (h : n) (s : Bx n → g := by (intro h; refine Zqcx ?_; refine Zqaw ?_; exact h.v)) : g := s ⟨h⟩
theorem Zqea {g n : Prop} (h : n) (s : Bx n → g := by (intro h; refine Zqal ?_; refine Zqaw ?_; exact h.v)) : g := s ⟨h⟩
theorem Zqeb {g n : Prop} (h : n) (s : Bx n → g := by (intro h; refine Zqaq ?_; refine Zqde ?_; exact h.v)) : g := s ⟨h⟩
theorem Zqec {g n : Prop} (h : n) (s : Bx n → g := by (intro h; refine Zqb7 ?_; refine Zqca ?_; exact h.v)) : g := s ⟨h⟩
theorem Zqed {g n : Prop} (h : n) (s : Bx n → g := by (intro h; refine Zqal ?_; refine Zqcj ?_; exact h.v)) : g := s ⟨h⟩
theorem Zqee {g n : Prop} (h : n) (s : Bx n → g := by (intro h; refine Zqb3 ?_; refine Zqb8 ?_; exact h.v)) : g := s ⟨h⟩
theorem Zqef {g n : Prop} (h : n) (s : Bx n → g := by (intro h; refine Zqc1 ?_; refine Zqcc ?_; exact h.v)) : g := s ⟨h⟩
theorem Zqeg {g n : Prop} (h : n) (s : Bx n → g := by (intro h; refine Zqai ?_; refine Zqcf ?_; exact h.v)) : g := s ⟨h⟩
theorem Zqeh {g n : Prop} (h : n) (s : Bx n → g := by (intro h; refine Zqdf ?_; refine Zqb9 ?_; exact h.v)) : g := s ⟨h⟩
theorem Zqei {g n : Prop} (h : n) (s : Bx n → g := by (intro h; refine Zqa6 ?_; refine Zqaa ?_; exact h.v)) : g := s ⟨h⟩
theorem Zqej {g n : Prop} (h : n) (s : Bx n → g := by (intro h; refine Zqb6 ?_; refine Zqdq ?_; exact h.v)) : g := s ⟨h⟩
theorem Zqek {g n : Prop} (h : n) (s : Bx n → g := by (intro h; refine Zqdh ?_; refine Zqcc ?_; exact h.v)) : g := s ⟨h⟩
theorem Zqel {g n : Prop} (h : n) (s : Bx n → g := by (intro h; refine Zqdn ?_; refine Zqci ?_; exact h.v)) : g := s ⟨h⟩
theorem Zqem {g n : Prop} (h : n) (s : Bx n → g := by (intro h; refine Zqc2 ?_; refine Zqaw ?_; exact h.v)) : g := s ⟨h⟩
theorem Zqen {g n : Prop} (h : n) (s : Bx n → g := by (intro h; refine Zqay ?_; refine Zqam ?_; exact h.v)) : g := s ⟨h⟩
theorem Zqeo {g n : Prop} (h : n) (s : Bx n → g := by (intro h; refine Zqal ?_; refine Zqcd ?_; exact h.v)) : g := s ⟨h⟩
theorem Zqep {g n : Prop} (h : n) (s : Bx n → g := by (intro h; refine Zqaq ?_; refine Zqax ?_; exact h.v)) : g := s ⟨h⟩
theorem Zqeq {g n : Prop} (h : n) (s : Bx n → g := by (intro h; refine Zqcz ?_; refine Zqb9 ?_; exact h.v)) : g := s ⟨h⟩
theorem Zqer {g n : Prop} (h : n) (s : Bx n → g := by (intro h; refine Zqch ?_; refine Zqah ?_; exact h.v)) : g := s ⟨h⟩
theorem Zqes {g n : Prop} (h : n) (s : Bx n → g := by (intro h; refine Zqds ?_; refine Zqdd ?_; exact h.v)) : g := s ⟨h⟩
theorem Zqet {g n : Prop} (h : n) (s : Bx n → g := by (intro h; refine Zqbh ?_; refine Zqbi ?_; exact h.v)) : g := s ⟨h⟩
theorem Zqeu {g n : Prop} (h : n) (s : Bx n → g := by (intro h; refine Zqb5 ?_; refine Zqab ?_; exact h.v)) : g := s ⟨h⟩
theorem Zqev {g n : Prop} (h : n) (s : Bx n → g := by (intro h; refine Zqck ?_; refine Zqb9 ?_; exact h.v)) : g := s ⟨h⟩
theorem Zqew {g n : Prop} (h : n) (s : Bx n → g := by (intro h; refine Zqcj ?_; refine Zqax ?_; exact h.v)) : g := s ⟨h⟩
theorem Zqex {g n : Prop} (h : n) (s : Bx n → g := by (intro h; refine Zqce ?_; refine Zqa0 ?_; exact h.v)) : g := s ⟨h⟩
theorem Zqey {g n : Prop} (h : n) (s : Bx n → g := by (intro h; refine Zqdt ?_; refine Zqaz ?_; exact h.v)) : g := s ⟨h⟩
theorem Zqez {g n : Prop} (h : n) (s : Bx n → g := by (intro h; refine Zqa7 ?_; refine Zqb4 ?_; exact h.v)) : g := s ⟨h⟩
theorem Zqe0 {g n : Prop} (h : n) (s : Bx n → g := by (intro h; refine Zqdg ?_; refine Zqat ?_; exact h.v)) : g := s ⟨h⟩
theorem Zqe1 {g n : Prop} (h : n) (s : Bx n → g := by (intro h; refine Zqcj ?_; refine Zqaq ?_; exact h.v)) : g := s ⟨h⟩
theorem Zqe2 {g n : Prop} (h : n) (s : Bx n → g := by (intro h; refine Zqab ?_; refine Zqcd ?_; exact h.v)) : g := s ⟨h⟩
theorem Zqe3 {g n : Prop} (h : n) (s : Bx n → g := by (intro h; refine Zqb1 ?_; refine Zqam ?_; exact h.v)) : g := s ⟨h⟩
theorem Zqe4 {g n : Prop} (h : n) (s : Bx n → g := by (intro h; refine Zqaz ?_; refine Zqaa ?_; exact h.v)) : g := s ⟨h⟩
theorem Zqe5 {g n : Prop} (h : n) (s : Bx n → g := by (intro h; refine Zqat ?_; refine Zqb4 ?_; exact h.v)) : g := s ⟨h⟩
theorem Zqe6 {g n : Prop} (h : n) (s : Bx n → g := by (intro h; refine Zqb5 ?_; refine Zqb7 ?_; exact h.v)) : g := s ⟨h⟩
theorem Zqe7 {g n : Prop} (h : n) (s : Bx n → g := by (intro h; refine Zqdz ?_; refine Zqee ?_; exact h.v)) : g := s ⟨h⟩
theorem Zqe8 {g n : Prop} (h : n) (s : Bx n → g := by (intro h; refine Zqex ?_; refine Zqdp ?_; exact h.v)) : g := s ⟨h⟩
theorem Zqe9 {g n : Prop} (h : n) (s : Bx n → g := by (intro h; refine Zqc4 ?_; refine Zqdv ?_; exact h.v)) : g := s ⟨h⟩
theorem Zqfa {g n : Prop} (h : n) (s : Bx n → g := by (intro h; refine Zqcy ?_; refine Zqcy ?_; exact h.v)) : g := s ⟨h⟩
theorem Zqfb {g n : Prop} (h : n) (s : Bx n → g := by (intro h; refine Zqb4 ?_; refine Zqa1 ?_; exact h.v)) : g := s ⟨h⟩
theorem Zqfc {g n : Prop} (h : n) (s : Bx n → g := by (intro h; refine Zqd1 ?_; refine Zqaw ?_; exact h.v)) : g := s ⟨h⟩
theorem Zqfd {g n : Prop} (h : n) (s : Bx n → g := by (intro h; refine Zqb1 ?_; refine Zqc0 ?_; exact h.v)) : g := s ⟨h⟩
theorem Zqfe {g n : Prop} (h : n) (s : Bx n → g := by (intro h; refine Zqfd ?_; refine Zqab ?_; exact h.v)) : g := s ⟨h⟩
theorem Zqff {g n : Prop} (h : n) (s : Bx n → g := by (intro h; refine Zqac ?_; refine Zqat ?_; exact h.v)) : g := s ⟨h⟩
theorem Zqfg {g n : Prop} (h : n) (s : Bx n → g := by (intro h; refine Zqff ?_; refine Zqd1 ?_; exact h.v)) : g := s ⟨h⟩
theorem Zqfh {g n : Prop} (h : n) (s : Bx n → g := by (intro h; refine Zqb1 ?_; refine Zqeg ?_; exact h.v)) : g := s ⟨h⟩
theorem Zqfi {g n : Prop} (h : n) (s : Bx n → g := by (intro h; refine Zqch ?_; refine Zqdw ?_; exact h.v)) : g := s ⟨h⟩
theorem Zqfj {g n : Prop} (h : n) (s : Bx n → g := by (intro h; refine Zqep ?_; refine Zqet ?_; exact h.v)) : g := s ⟨h⟩
theorem Zqfk {g n : Prop} (h : n) (s : Bx n → g := by (intro h; refine Zqcw ?_; refine Zqaz ?_; exact h.v)) : g := s ⟨h⟩
theorem Zqfl {g n : Prop} (h : n) (s : Bx n → g := by (intro h; refine Zqal ?_; refine Zqb7 ?_; exact h.v)) : g := s ⟨h⟩
theorem Zqfm {g n : Prop} (h : n) (s : Bx n → g := by (intro h; refine Zqdl ?_; refine Zqcp ?_; exact h.v)) : g := s ⟨h⟩
theorem Zqfn {g n : Prop} (h : n) (s : Bx n → g := by (intro h; refine Zqdf ?_; refine Zqb8 ?_; exact h.v)) : g := s ⟨h⟩
theorem Zqfo {g n : Prop} (h : n) (s : Bx n → g := by (intro h; refine Zqb2 ?_; refine Zqc7 ?_; exact h.v)) : g := s ⟨h⟩
theorem Zqfp {g n : Prop} (h : n) (s : Bx n → g := by (intro h; refine Zqai ?_; refine Zqcn ?_; exact h.v)) : g := s ⟨h⟩
theorem Zqfq {g n : Prop} (h : n) (s : Bx n → g := by (intro h; refine Zqaw ?_; refine Zqb7 ?_; exact h.v)) : g := s ⟨h⟩
theorem Zqfr {g n : Prop} (h : n) (s : Bx n → g := by (intro h; refine Zqcn ?_; refine Zqab ?_; exact h.v)) : g := s ⟨h⟩
theorem Zqfs {g n : Prop} (h : n) (s : Bx n → g := by (intro h; refine Zqal ?_; refine Zqdj ?_; exact h.v)) : g := s ⟨h⟩
theorem Zqft {g n : Prop} (h : n) (s : Bx n → g := by (intro h; refine Zqaz ?_; refine Zqcl ?_; exact h.v)) : g := s ⟨h⟩
theorem Zqfu {g n : Prop} (h : n) (s : Bx n → g := by (intro h; refine Zqb1 ?_; refine Zqba ?_; exact h.v)) : g := s ⟨h⟩
theorem Zqfv {g n : Prop} (h : n) (s : Bx n → g := by (intro h; refine Zqfu ?_; refine Zqcb ?_; exact h.v)) : g := s ⟨h⟩
theorem Zqfw {g n : Prop} (h : n) (s : Bx n → g := by (intro h; refine Zqew ?_; refine Zqbm ?_; exact h.v)) : g := s ⟨h⟩
theorem Zqfx {g n : Prop} (h : n) (s : Bx n → g := by (intro h; refine Zqba ?_; refine Zqaa ?_; exact h.v)) : g := s ⟨h⟩
theorem Zqfy {g n : Prop} (h : n) (s : Bx n → g := by (intro h; refine Zqcz ?_; refine Zqb8 ?_; exact h.v)) : g := s ⟨h⟩
theorem Zqfz {g n : Prop} (h : n) (s : Bx n → g := by (intro h; refine Zqb4 ?_; refine Zqc8 ?_; exact h.v)) : g := s ⟨h⟩
theorem Zqf0 {g n : Prop} (h : n) (s : Bx n → g := by (intro h; refine Zqb2 ?_; refine Zqc5 ?_; exact h.v)) : g := s ⟨h⟩
theorem Zqf1 {g n : Prop} (h : n) (s : Bx n → g := by (intro h; refine Zqal ?_; refine Zqct ?_; exact h.v)) : g := s ⟨h⟩
theorem Zqf2 {g n : Prop} (h : n) (s : Bx n → g := by (intro h; refine Zqcu ?_; refine Zqa7 ?_; exact h.v)) : g := s ⟨h⟩
theorem Zqf3 {g n : Prop} (h : n) (s : Bx n → g := by (intro h; refine Zqck ?_; refine Zqcv ?_; exact h.v)) : g := s ⟨h⟩
theorem Zqf4 {g n : Prop} (h : n) (s : Bx n → g := by (intro h; refine Zqd4 ?_; refine Zqel ?_; exact h.v)) : g := s ⟨h⟩
theorem Zqf5 {g n : Prop} (h : n) (s : Bx n → g := by (intro h; refine Zqau ?_; refine Zqcb ?_; exact h.v)) : g := s ⟨h⟩
theorem Zqf6 {g n : Prop} (h : n) (s : Bx n → g := by (intro h; refine Zqck ?_; refine Zqb8 ?_; exact h.v)) : g := s ⟨h⟩
theorem Zqf7 {g n : Prop} (h : n) (s : Bx n → g := by (intro h; refine Zqay ?_; refine Zqci ?_; exact h.v)) : g := s ⟨h⟩
theorem Zqf8 {g n : Prop} (h : n) (s : Bx n → g := by (intro h; refine Zqfi ?_; refine Zqc0 ?_; exact h.v)) : g := s ⟨h⟩
theorem Zqf9 {g n : Prop} (h : n) (s : Bx n → g := by (intro h; refine Zqfj ?_; refine Zqeb ?_; exact h.v)) : g := s ⟨h⟩
theorem Zqga {g n : Prop} (h : n) (s : Bx n → g := by (intro h; refine Zqaq ?_; refine Zqb4 ?_; exact h.v)) : g := s ⟨h⟩
theorem Zqgb {g n : Prop} (h : n) (s : Bx n → g := by (intro h; refine Zqcx ?_; refine Zqab ?_; exact h.v)) : g := s ⟨h⟩
theorem Zqgc {g n : Prop} (h : n) (s : Bx n → g := by (intro h; refine Zqdl ?_; refine Zqci ?_; exact h.v)) : g := s ⟨h⟩
theorem Zqgd {g n : Prop} (h : n) (s : Bx n → g := by (intro h; refine Zqdu ?_; refine Zqc0 ?_; exact h.v)) : g := s ⟨h⟩
theorem Zqge {g n : Prop} (h : n) (s : Bx n → g := by (intro h; refine Zqat ?_; refine Zqcq ?_; exact h.v)) : g := s ⟨h⟩
theorem Zqgf {g n : Prop} (h : n) (s : Bx n → g := by (intro h; refine Zqba ?_; refine Zqci ?_; exact h.v)) : g := s ⟨h⟩
theorem Zqgg {g n : Prop} (h : n) (s : Bx n → g := by (intro h; refine Zqa1 ?_; refine Zqam ?_; exact h.v)) : g := s ⟨h⟩
theorem Zqgh {g n : Prop} (h : n) (s : Bx n → g := by (intro h; refine Zqe6 ?_; refine Zqdd ?_; exact h.v)) : g := s ⟨h⟩
theorem Zqgi {g n : Prop} (h : n) (s : Bx n → g := by (intro h; refine Zqas ?_; refine Zqah ?_; exact h.v)) : g := s ⟨h⟩
theorem Zqgj {g n : Prop} (h : n) (s : Bx n → g := by (intro h; refine Zqcw ?_; refine Zqds ?_; exact h.v)) : g := s ⟨h⟩
theorem Zqgk {g n : Prop} (h : n) (s : Bx n → g := by (intro h; refine Zqfb ?_; refine Zqcp ?_; exact h.v)) : g := s ⟨h⟩
theorem Zqgl {g n : Prop} (h : n) (s : Bx n → g := by (intro h; refine Zqal ?_; refine Zqch ?_; exact h.v)) : g := s ⟨h⟩
theorem Zqgm {g n : Prop} (h : n) (s : Bx n → g := by (intro h; refine Zqch ?_; refine Zqdg ?_; exact h.v)) : g := s ⟨h⟩
theorem Zqgn {g n : Prop} (h : n) (s : Bx n → g := by (intro h; refine Zqey ?_; refine Zqes ?_; exact h.v)) : g := s ⟨h⟩
end Go.Proofs.YtfokkdofcekdbaaGreatDoor
