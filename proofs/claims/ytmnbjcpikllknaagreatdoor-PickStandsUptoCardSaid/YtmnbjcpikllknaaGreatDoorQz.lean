/- Short words for the walks. No condition. -/
import Derived.Test.YtmnbjcpikllknaaGreatDoorTy
import Derived.Test.YtmnbjcpikllknaaGreatDoorEng34
import Derived.Test.YtmnbjcpikllknaaGreatDoorPf
import Derived.Test.YtmnbjcpikllknaaGreatDoorEA
set_option linter.unusedVariables false
namespace Go.Proofs.YtmnbjcpikllknaaGreatDoor
structure Bx (n : Prop) : Prop where
 v : n
theorem ws {p : Prop} (h : p := by (repeat (first | with_reducible exact WS.refl _ | refine WS.add ?_ rfl | exact WS.refl _))) : p := h
theorem tw {p : Prop} (h : p := by (refine ⟨_, hF, .hd (.refl _) ?_⟩; repeat (first | with_reducible exact WS.refl _ | refine WS.add ?_ rfl | exact WS.refl _))) : p := h
theorem th {p : Prop} (h : p := by (first | refine .hd (YJ (by assumption)) ?_ | refine .hd (YY (by assumption)) ?_ | refine .hd (Xq (by assumption)) ?_ | refine .hd (Yn (by assumption)) ?_); (repeat (first | with_reducible exact WS.refl _ | refine WS.add ?_ rfl | exact WS.refl _))) : p := h
theorem rt {p : Prop} (h : p := by (repeat (first | with_reducible refine Exit.sel_ret ?_ | with_reducible refine Exit.blk_ret ?_ | with_reducible refine Exit.jmp_ret ?_)); refine Ht rfl (by repeat' first | exact .nil | apply RV.tmp (v := .int _ _) rfl | apply RV.tmp (v := .bool _) rfl | apply RV.tmp (v := .str _) rfl | apply RV.tmp (v := .sl _ _ _) rfl | apply RV.tmp (v := .agg _) rfl | apply RV.tmp (v := ifD _) rfl | apply RV.tmp (v := Cw _ _ _) rfl | apply RV.tmp (v := FY _ _ _ _) rfl | apply RV.tmp (v := .float _ _) rfl | apply RV.tmp (v := .cplx _ _ _) rfl) ?_; first | exact ⟨_, _, .refl _, ok.wh, _, As hF, rfl, rfl⟩ | exact ⟨_, _, .refl _, WH.refl _, _, As hF, rfl⟩ | (refine ⟨_, _, ?_, ok.wh, _, As hF, rfl, rfl⟩; repeat' first | exact .refl _ | exact .zero _ _ _ | exact .nil _ | exact .nil | refine .tupC ?_ | refine .aggC ?_ | refine Wd.toE (.aggC ?_) (none_eq _) | refine .cons ?_ ?_) | (refine ⟨_, _, ?_, WH.refl _, _, As hF, rfl⟩; repeat' first | exact .refl _ | exact .zero _ _ _ | exact .nil _ | exact .nil | refine .tupC ?_ | refine .aggC ?_ | refine Wd.toE (.aggC ?_) (none_eq _) | refine .cons ?_ ?_)) : p := h
theorem oy {h : Heap} {O O' : List (Nat × AObj)} (ok : OK h O) (w : WO O O' := by (repeat' first | exact .refl _ | refine .keep ?_ | refine .drop ?_ | exact .nil)) : OK h O' := (w.spec ok).1
theorem hy {h : Heap} {O O' : List (Nat × AObj)} (ok : OK h O) (w : WO O O' := by (repeat' first | exact .refl _ | refine .keep ?_ | refine .drop ?_ | exact .nil)) : WH (Hp h O) (Hp h O') := (w.spec ok).2.2
theorem wy {n : Nat} {l l' : List (Nat × D)} {h : Heap} {O O' : List (Nat × AObj)} (ok : OK h O) (hl : WL n l l' := by (repeat' first | exact .refl _ | exact .zero _ _ _ | exact .nil _ | exact .nil | refine .tupC ?_ | refine .aggC ?_ | refine Wd.toE (.aggC ?_) (none_eq _) | refine .cons ?_ ?_)) (w : WO O O' := by (repeat' first | exact .refl _ | refine .keep ?_ | refine .drop ?_ | exact .nil)) : WS ⟨Av n l, Hp h O⟩ ⟨Av n l', Hp h O'⟩ := WS.mk' hl ok w
theorem okT {ρ β : Type} {P : Program} {g : FuncId} {ds : List D} {H : Heap} {X : Option ρ} {Q : ρ -> D -> Heap -> Prop} {f : ρ -> Option β} {G : β -> Prop} {R : D -> Heap -> Prop} (w : ∀ G : ρ -> Prop, OptP X G -> CallsA P g ds H fun d h' => ∃ r, G r /\ Q r d h') (hF : OptP (X.bind f) G) (hk : ∀ r d h', X = some r -> Q r d h' -> OptP (f r) G -> R d h') : CallsA P g ds H R := by
 obtain ⟨r0, hr, hF⟩ := Bj hF;refine (w (fun r => r = r0) ⟨r0, hr, rfl⟩).mono ?_;rintro d h' ⟨r, rfl, hq⟩;exact hk _ _ _ hr hq hF
theorem xr {g n : Prop} (h : n) (s : Bx n -> g := by (intro h; (repeat (first | with_reducible refine Exit.sel_ret ?_ | with_reducible refine Exit.blk_ret ?_ | with_reducible refine Exit.jmp_ret ?_)); exact h.v)) : g := s ⟨h⟩
theorem rp {g n : Prop} (h : n) (s : Bx n -> g := by (intro h; (repeat (first | with_reducible refine Exit.sel_pan ?_ | with_reducible refine Exit.blk_pan ?_)); exact h.v)) : g := s ⟨h⟩
theorem rr {g n : Prop} (h : n) (s : Bx n -> g := by (intro h; (repeat (first | with_reducible refine Exit.sel_ret ?_ | with_reducible refine Exit.blk_ret ?_ | with_reducible refine Exit.jmp_ret ?_)); refine Ht rfl (by repeat' first | exact .nil | apply RV.tmp (v := .int _ _) rfl | apply RV.tmp (v := .bool _) rfl | apply RV.tmp (v := .str _) rfl | apply RV.tmp (v := .sl _ _ _) rfl | apply RV.tmp (v := .agg _) rfl | apply RV.tmp (v := ifD _) rfl | apply RV.tmp (v := Cw _ _ _) rfl | apply RV.tmp (v := FY _ _ _ _) rfl | apply RV.tmp (v := .float _ _) rfl | apply RV.tmp (v := .cplx _ _ _) rfl) ?_; exact h.v)) : g := s ⟨h⟩
theorem cl {P : Program} {md : Nat -> Nat} {w : Bool} {ops : Array Oper} {os : List Oper} {k : St -> Prop} {n : Nat} {l : List (Nat × D)} {h : Heap} {d : Nat} {ty : TypeId} {pos : String} {af : Array Edge} {g : FuncId} {args : Array Operand} {ts : Array TypeId} {ds : List D} (hc : CallsA P g ds h fun v h' => AJ P md w ops os ⟨Av n ((d, v) :: l), h'⟩ k) (hw : WdC (args.toList.map (opL n l)) ds := by (repeat' first | exact .refl _ | exact .zero _ _ _ | exact .nil _ | exact .nil | refine .tupC ?_ | refine .aggC ?_ | refine Wd.toE (.aggC ?_) (none_eq _) | refine .cons ?_ ?_)) : AJ P md w ops (⟨some d, .call ⟨.value (.func g), args, ts⟩, ty, pos, af, none⟩ :: os) ⟨Av n l, h⟩ k := Px hc hw
theorem Zqaa {g n : Prop} (h : n) (s : Bx n -> g := by (intro h; refine Js ?_; exact h.v)) : g := s ⟨h⟩
theorem Zqab {g n : Prop} (h : n) (s : Bx n -> g := by (intro h; refine Kd ?_; exact h.v)) : g := s ⟨h⟩
theorem Zqac {g n : Prop} (h : n) (s : Bx n -> g := by (intro h; refine Ck (mdl []) ?_; exact h.v)) : g := s ⟨h⟩
theorem Zqad {g n : Prop} (h : n) (s : Bx n -> g := by (intro h; refine Vw ?_; exact h.v)) : g := s ⟨h⟩
theorem Zqae {g n : Prop} (h : n) (s : Bx n -> g := by (intro h; refine YE rfl rfl (by assumption) ?_; exact h.v)) : g := s ⟨h⟩
theorem Zqaf {g n : Prop} (h : n) (s : Bx n -> g := by (intro h; refine YF ?_; exact h.v)) : g := s ⟨h⟩
theorem Zqag {g n : Prop} (h : n) (s : Bx n -> g := by (intro h; refine VD rfl rfl (by assumption) ?_; exact h.v)) : g := s ⟨h⟩
theorem Zqah {g n : Prop} (h : n) (s : Bx n -> g := by (intro h; refine S_m (v := .int _ _) rfl ?_; exact h.v)) : g := s ⟨h⟩
theorem Zqai {g n : Prop} (h : n) (s : Bx n -> g := by (intro h; refine S_a (v := .int _ _) rfl ?_; exact h.v)) : g := s ⟨h⟩
theorem Zqaj {g n : Prop} (h : n) (s : Bx n -> g := by (intro h; refine S_a (v := .bool _) rfl ?_; exact h.v)) : g := s ⟨h⟩
theorem Zqak {g n : Prop} (h : n) (s : Bx n -> g := by (intro h; refine Ph ?_; exact h.v)) : g := s ⟨h⟩
theorem Zqal {g n : Prop} (h : n) (s : Bx n -> g := by (intro h; refine Mz ?_; exact h.v)) : g := s ⟨h⟩
theorem Zqam {g n : Prop} (h : n) (s : Bx n -> g := by (intro h; refine S_m (v := .bool _) rfl ?_; exact h.v)) : g := s ⟨h⟩
theorem Zqan {g n : Prop} (h : n) (s : Bx n -> g := by (intro h; refine S_m (v := .ptr _ _) rfl ?_; exact h.v)) : g := s ⟨h⟩
theorem Zqao {g n : Prop} (h : n) (s : Bx n -> g := by (intro h; refine On (v := .bool _) rfl (by assumption) rfl ?_; exact h.v)) : g := s ⟨h⟩
theorem Zqap {g n : Prop} (h : n) (s : Bx n -> g := by (intro h; refine Kp (v := .bool _) rfl (by assumption) rfl ?_; exact h.v)) : g := s ⟨h⟩
theorem Zqaq {g n : Prop} (h : n) (s : Bx n -> g := by (intro h; refine Sj ?_; exact h.v)) : g := s ⟨h⟩
theorem Zqar {g n : Prop} (h : n) (s : Bx n -> g := by (intro h; refine TJ (v := .ptr _ _) rfl rfl ?_; exact h.v)) : g := s ⟨h⟩
theorem Zqas {g n : Prop} (h : n) (s : Bx n -> g := by (intro h; refine CQ rfl rfl (W5 ..) ?_; exact h.v)) : g := s ⟨h⟩
theorem Zqat {g n : Prop} (h : n) (s : Bx n -> g := by (intro h; refine S_m (v := .sl _ _ _) rfl ?_; exact h.v)) : g := s ⟨h⟩
theorem Zqau {g n : Prop} (h : n) (s : Bx n -> g := by (intro h; refine Yk rfl rfl ?_; exact h.v)) : g := s ⟨h⟩
theorem Zqav {g n : Prop} (h : n) (s : Bx n -> g := by (intro h; refine CQ rfl rfl (WA ..) ?_; exact h.v)) : g := s ⟨h⟩
theorem Zqaw {g n : Prop} (h : n) (s : Bx n -> g := by (intro h; refine CQ rfl rfl (Wf ..) ?_; exact h.v)) : g := s ⟨h⟩
theorem Zqax {g n : Prop} (h : n) (s : Bx n -> g := by (intro h; refine VD rfl rfl rfl ?_; exact h.v)) : g := s ⟨h⟩
theorem Zqay {g n : Prop} (h : n) (s : Bx n -> g := by (intro h; refine UA ?_; exact h.v)) : g := s ⟨h⟩
theorem Zqaz {g n : Prop} (h : n) (s : Bx n -> g := by (intro h; simp only [Exit.sel, Exit.blk, Exit.jmp, if_true, if_false, reduceIte, Nat.reduceEqDiff, Nat.succ_ne_zero, Nat.zero_ne_one, Nat.one_ne_zero]; exact h.v)) : g := s ⟨h⟩
theorem Zqa0 {g n : Prop} (h : n) (s : Bx n -> g := by (intro h; refine S_m (v := .str _) rfl ?_; exact h.v)) : g := s ⟨h⟩
theorem Zqa1 {g n : Prop} (h : n) (s : Bx n -> g := by (intro h; refine CN rfl KC AF ?_; exact h.v)) : g := s ⟨h⟩
theorem Zqa2 {g n : Prop} (h : n) (s : Bx n -> g := by (intro h; refine BQ (j := 0) ok rfl rfl rfl (by assumption) (AZ (v := .int _ _) CC AF rfl) ?_; exact h.v)) : g := s ⟨h⟩
theorem Zqa3 {g n : Prop} (h : n) (s : Bx n -> g := by (intro h; refine BQ (j := 0) ok rfl rfl rfl (by assumption) (AZ (v := .str _) By AE rfl) ?_; exact h.v)) : g := s ⟨h⟩
theorem Zqa4 {g n : Prop} (h : n) (s : Bx n -> g := by (intro h; refine CQ rfl rfl (WU ..) ?_; exact h.v)) : g := s ⟨h⟩
theorem Zqa5 {g n : Prop} (h : n) (s : Bx n -> g := by (intro h; refine XC rfl (VM _) ?_; exact h.v)) : g := s ⟨h⟩
theorem Zqa6 {g n : Prop} (h : n) (s : Bx n -> g := by (intro h; refine VS rfl Bb ?_; exact h.v)) : g := s ⟨h⟩
theorem Zqa7 {g n : Prop} (h : n) (s : Bx n -> g := by (intro h; refine CQ rfl rfl (Wz ..) ?_; exact h.v)) : g := s ⟨h⟩
theorem Zqa8 {g n : Prop} (h : n) (s : Bx n -> g := by (intro h; refine S_a (v := .sl _ _ _) rfl ?_; exact h.v)) : g := s ⟨h⟩
theorem Zqa9 {g n : Prop} (h : n) (s : Bx n -> g := by (intro h; refine S_m (v := .tup _) rfl ?_; exact h.v)) : g := s ⟨h⟩
theorem Zqba {g n : Prop} (h : n) (s : Bx n -> g := by (intro h; refine CQ rfl rfl (WN ..) ?_; exact h.v)) : g := s ⟨h⟩
theorem Zqbb {g n : Prop} (h : n) (s : Bx n -> g := by (intro h; refine VB rfl rfl ?_; exact h.v)) : g := s ⟨h⟩
theorem Zqbc {g n : Prop} (h : n) (s : Bx n -> g := by (intro h; refine CQ rfl rfl Wi ?_; exact h.v)) : g := s ⟨h⟩
theorem Zqbd {g n : Prop} (h : n) (s : Bx n -> g := by (intro h; refine D7 rfl DU ?_; exact h.v)) : g := s ⟨h⟩
theorem Zqbe {g n : Prop} (h : n) (s : Bx n -> g := by (intro h; refine AS rfl (AZ O6 Il rfl) ?_; exact h.v)) : g := s ⟨h⟩
theorem Zqbf {g n : Prop} (h : n) (s : Bx n -> g := by (intro h; refine CQ rfl rfl (VK ..) ?_; exact h.v)) : g := s ⟨h⟩
theorem Zqbg {g n : Prop} (h : n) (s : Bx n -> g := by (intro h; refine AS rfl (AZ By AE rfl) ?_; exact h.v)) : g := s ⟨h⟩
theorem Zqbh {g n : Prop} (h : n) (s : Bx n -> g := by (intro h; refine CN rfl LK DC ?_; exact h.v)) : g := s ⟨h⟩
theorem Zqbi {g n : Prop} (h : n) (s : Bx n -> g := by (intro h; refine CN rfl NX AE ?_; exact h.v)) : g := s ⟨h⟩
theorem Zqbj {g n : Prop} (h : n) (s : Bx n -> g := by (intro h; refine CQ rfl rfl (Ve ..) ?_; exact h.v)) : g := s ⟨h⟩
theorem Zqbk {g n : Prop} (h : n) (s : Bx n -> g := by (intro h; refine S_a (v := .str _) rfl ?_; exact h.v)) : g := s ⟨h⟩
theorem Zqbl {g n : Prop} (h : n) (s : Bx n -> g := by (intro h; refine BQ (j := 1) ok rfl rfl rfl (by assumption) (AZ (v := .int _ _) CC AF rfl) ?_; exact h.v)) : g := s ⟨h⟩
theorem Zqbm {g n : Prop} (h : n) (s : Bx n -> g := by (intro h; refine AS rfl (AZ CC AF rfl) ?_; exact h.v)) : g := s ⟨h⟩
theorem Zqbn {g n : Prop} (h : n) (s : Bx n -> g := by (intro h; refine CN rfl Jb AE ?_; exact h.v)) : g := s ⟨h⟩
theorem Zqbo {g n : Prop} (h : n) (s : Bx n -> g := by (intro h; refine BQ (j := 2) ok rfl rfl rfl (by assumption) (AZ (v := .sl _ _ _) Pb DC rfl) ?_; exact h.v)) : g := s ⟨h⟩
theorem Zqbp {g n : Prop} (h : n) (s : Bx n -> g := by (intro h; refine CN rfl OI AE ?_; exact h.v)) : g := s ⟨h⟩
theorem Zqbq {g n : Prop} (h : n) (s : Bx n -> g := by (intro h; refine D7 rfl D3 ?_; exact h.v)) : g := s ⟨h⟩
theorem Zqbr {g n : Prop} (h : n) (s : Bx n -> g := by (intro h; refine Bn rfl LI Il rfl ?_; exact h.v)) : g := s ⟨h⟩
theorem Zqbs {g n : Prop} (h : n) (s : Bx n -> g := by (intro h; refine BQ (j := 1) ok rfl rfl rfl (by assumption) (AZ (v := .str _) By AE rfl) ?_; exact h.v)) : g := s ⟨h⟩
theorem Zqbt {g n : Prop} (h : n) (s : Bx n -> g := by (intro h; refine S_m (v := .fn (.func _) _ _) rfl ?_; exact h.v)) : g := s ⟨h⟩
theorem Zqbu {g n : Prop} (h : n) (s : Bx n -> g := by (intro h; refine CN rfl N6 Hb ?_; exact h.v)) : g := s ⟨h⟩
theorem Zqbv {g n : Prop} (h : n) (s : Bx n -> g := by (intro h; refine CN rfl Dt BG ?_; exact h.v)) : g := s ⟨h⟩
theorem Zqbw {g n : Prop} (h : n) (s : Bx n -> g := by (intro h; refine BQ (j := 5) ok rfl rfl rfl (by assumption) (AZ (v := .sl _ _ _) F7 Di rfl) ?_; exact h.v)) : g := s ⟨h⟩
theorem Zqbx {g n : Prop} (h : n) (s : Bx n -> g := by (intro h; refine Bn rfl PC Il rfl ?_; exact h.v)) : g := s ⟨h⟩
theorem Zqby {g n : Prop} (h : n) (s : Bx n -> g := by (intro h; refine CN rfl Ou Cv ?_; exact h.v)) : g := s ⟨h⟩
theorem Zqbz {g n : Prop} (h : n) (s : Bx n -> g := by (intro h; refine CN rfl Oh In ?_; exact h.v)) : g := s ⟨h⟩
theorem Zqb0 {g n : Prop} (h : n) (s : Bx n -> g := by (intro h; refine AS rfl (AZ L2 Dh rfl) ?_; exact h.v)) : g := s ⟨h⟩
theorem Zqb1 {g n : Prop} (h : n) (s : Bx n -> g := by (intro h; refine CN rfl B3 AF ?_; exact h.v)) : g := s ⟨h⟩
theorem Zqb2 {g n : Prop} (h : n) (s : Bx n -> g := by (intro h; refine Bn rfl IS AD rfl ?_; exact h.v)) : g := s ⟨h⟩
theorem Zqb3 {g n : Prop} (h : n) (s : Bx n -> g := by (intro h; refine D7 rfl GI ?_; exact h.v)) : g := s ⟨h⟩
theorem Zqb4 {g n : Prop} (h : n) (s : Bx n -> g := by (intro h; refine BQ (j := 0) ok rfl rfl rfl (by assumption) (AZ (v := .sl _ _ _) Ky Hb rfl) ?_; exact h.v)) : g := s ⟨h⟩
theorem Zqb5 {g n : Prop} (h : n) (s : Bx n -> g := by (intro h; refine Bn rfl PH Dh rfl ?_; exact h.v)) : g := s ⟨h⟩
theorem Zqb6 {g n : Prop} (h : n) (s : Bx n -> g := by (intro h; refine CN rfl HD AE ?_; exact h.v)) : g := s ⟨h⟩
theorem Zqb7 {g n : Prop} (h : n) (s : Bx n -> g := by (intro h; refine S_a (v := Cw _ _ _) rfl ?_; exact h.v)) : g := s ⟨h⟩
theorem Zqb8 {g n : Prop} (h : n) (s : Bx n -> g := by (intro h; refine AS rfl (AZ Gw Cv rfl) ?_; exact h.v)) : g := s ⟨h⟩
theorem Zqb9 {g n : Prop} (h : n) (s : Bx n -> g := by (intro h; refine S_m (v := Cw _ _ _) rfl ?_; exact h.v)) : g := s ⟨h⟩
theorem Zqca {g n : Prop} (h : n) (s : Bx n -> g := by (intro h; refine CN rfl CU Bt ?_; exact h.v)) : g := s ⟨h⟩
theorem Zqcb {g n : Prop} (h : n) (s : Bx n -> g := by (intro h; refine Bn rfl Jb AE rfl ?_; exact h.v)) : g := s ⟨h⟩
theorem Zqcc {g n : Prop} (h : n) (s : Bx n -> g := by (intro h; refine CN rfl Ow AF ?_; exact h.v)) : g := s ⟨h⟩
theorem Zqcd {g n : Prop} (h : n) (s : Bx n -> g := by (intro h; refine CN rfl KF Hu ?_; exact h.v)) : g := s ⟨h⟩
theorem Zqce {g n : Prop} (h : n) (s : Bx n -> g := by (intro h; refine CN rfl Qc Dh ?_; exact h.v)) : g := s ⟨h⟩
theorem Zqcf {g n : Prop} (h : n) (s : Bx n -> g := by (intro h; refine BQ (j := 0) ok rfl rfl rfl (by assumption) (AZ (v := Cw _ _ _) MN In rfl) ?_; exact h.v)) : g := s ⟨h⟩
theorem Zqcg {g n : Prop} (h : n) (s : Bx n -> g := by (intro h; refine Bn rfl Qd AC rfl ?_; exact h.v)) : g := s ⟨h⟩
theorem Zqch {g n : Prop} (h : n) (s : Bx n -> g := by (intro h; refine Bn rfl HD AE rfl ?_; exact h.v)) : g := s ⟨h⟩
theorem Zqci {g n : Prop} (h : n) (s : Bx n -> g := by (intro h; refine Bn rfl Qn AD rfl ?_; exact h.v)) : g := s ⟨h⟩
theorem Zqcj {g n : Prop} (h : n) (s : Bx n -> g := by (intro h; refine BQ (j := 0) ok rfl rfl rfl (by assumption) (AZ (v := .bool _) L2 Dh rfl) ?_; exact h.v)) : g := s ⟨h⟩
theorem Zqck {g n : Prop} (h : n) (s : Bx n -> g := by (intro h; refine BQ (j := 1) ok rfl rfl rfl (by assumption) (AZ (v := .sl _ _ _) Ef BG rfl) ?_; exact h.v)) : g := s ⟨h⟩
theorem Zqcl {g n : Prop} (h : n) (s : Bx n -> g := by (intro h; refine BQ (j := 2) ok rfl rfl rfl (by assumption) (AZ (v := .bool _) L2 Dh rfl) ?_; exact h.v)) : g := s ⟨h⟩
theorem Zqcm {g n : Prop} (h : n) (s : Bx n -> g := by (intro h; refine BQ (j := 1) ok rfl rfl rfl (by assumption) (AZ (v := Cw _ _ _) MN In rfl) ?_; exact h.v)) : g := s ⟨h⟩
theorem Zqcn {g n : Prop} (h : n) (s : Bx n -> g := by (intro h; refine BQ (j := 0) ok rfl rfl rfl (by assumption) (AZ (v := .ptr _ _) Kj Io rfl) ?_; exact h.v)) : g := s ⟨h⟩
theorem Zqco {g n : Prop} (h : n) (s : Bx n -> g := by (intro h; refine BQ (j := 1) ok rfl rfl rfl (by assumption) (AZ (v := .ptr _ _) Kj Io rfl) ?_; exact h.v)) : g := s ⟨h⟩
theorem Zqcp {g n : Prop} (h : n) (s : Bx n -> g := by (intro h; refine BQ (j := 3) ok rfl rfl rfl (by assumption) (AZ (v := .sl _ _ _) F7 Di rfl) ?_; exact h.v)) : g := s ⟨h⟩
theorem Zqcq {g n : Prop} (h : n) (s : Bx n -> g := by (intro h; refine BQ (j := 1) ok rfl rfl rfl (by assumption) (AZ (v := Cw _ _ _) Ef BG rfl) ?_; exact h.v)) : g := s ⟨h⟩
theorem Zqcr {g n : Prop} (h : n) (s : Bx n -> g := by (intro h; refine BQ (j := 3) ok rfl rfl rfl (by assumption) (AZ (v := .sl _ _ _) Ef BG rfl) ?_; exact h.v)) : g := s ⟨h⟩
theorem Zqcs {g n : Prop} (h : n) (s : Bx n -> g := by (intro h; refine Zqab ?_; refine Zqac ?_; exact h.v)) : g := s ⟨h⟩
theorem Zqct {g n : Prop} (h : n) (s : Bx n -> g := by (intro h; refine Zqae ?_; refine Zqaf ?_; exact h.v)) : g := s ⟨h⟩
theorem Zqcu {g n : Prop} (h : n) (s : Bx n -> g := by (intro h; refine Zqag ?_; refine Zqad ?_; exact h.v)) : g := s ⟨h⟩
theorem Zqcv {g n : Prop} (h : n) (s : Bx n -> g := by (intro h; refine Zqaa ?_; refine Zqct ?_; exact h.v)) : g := s ⟨h⟩
theorem Zqcw {g n : Prop} (h : n) (s : Bx n -> g := by (intro h; refine Zqcu ?_; refine Zqcu ?_; exact h.v)) : g := s ⟨h⟩
theorem Zqcx {g n : Prop} (h : n) (s : Bx n -> g := by (intro h; refine Zqaa ?_; refine Zqak ?_; exact h.v)) : g := s ⟨h⟩
theorem Zqcy {g n : Prop} (h : n) (s : Bx n -> g := by (intro h; refine Zqcs ?_; refine Zqah ?_; exact h.v)) : g := s ⟨h⟩
theorem Zqcz {g n : Prop} (h : n) (s : Bx n -> g := by (intro h; refine Zqao ?_; refine Zqaa ?_; exact h.v)) : g := s ⟨h⟩
theorem Zqc0 {g n : Prop} (h : n) (s : Bx n -> g := by (intro h; refine Zqap ?_; refine Zqaa ?_; exact h.v)) : g := s ⟨h⟩
theorem Zqc1 {g n : Prop} (h : n) (s : Bx n -> g := by (intro h; refine Zqaj ?_; refine Zqaa ?_; exact h.v)) : g := s ⟨h⟩
theorem Zqc2 {g n : Prop} (h : n) (s : Bx n -> g := by (intro h; refine Zqai ?_; refine Zqaa ?_; exact h.v)) : g := s ⟨h⟩
theorem Zqc3 {g n : Prop} (h : n) (s : Bx n -> g := by (intro h; refine Zqaj ?_; refine Zqcx ?_; exact h.v)) : g := s ⟨h⟩
theorem Zqc4 {g n : Prop} (h : n) (s : Bx n -> g := by (intro h; refine Zqai ?_; refine Zqcx ?_; exact h.v)) : g := s ⟨h⟩
theorem Zqc5 {g n : Prop} (h : n) (s : Bx n -> g := by (intro h; refine Zqaa ?_; refine Zqab ?_; exact h.v)) : g := s ⟨h⟩
theorem Zqc6 {g n : Prop} (h : n) (s : Bx n -> g := by (intro h; refine Zqcw ?_; refine Zqcw ?_; exact h.v)) : g := s ⟨h⟩
theorem Zqc7 {g n : Prop} (h : n) (s : Bx n -> g := by (intro h; refine Zqah ?_; refine Zqaa ?_; exact h.v)) : g := s ⟨h⟩
theorem Zqc8 {g n : Prop} (h : n) (s : Bx n -> g := by (intro h; refine Zqah ?_; refine Zqcv ?_; exact h.v)) : g := s ⟨h⟩
theorem Zqc9 {g n : Prop} (h : n) (s : Bx n -> g := by (intro h; refine Zqax ?_; refine Zqad ?_; exact h.v)) : g := s ⟨h⟩
theorem Zqda {g n : Prop} (h : n) (s : Bx n -> g := by (intro h; refine Zqan ?_; refine Zqar ?_; exact h.v)) : g := s ⟨h⟩
theorem Zqdb {g n : Prop} (h : n) (s : Bx n -> g := by (intro h; refine Zqay ?_; refine Zqaz ?_; exact h.v)) : g := s ⟨h⟩
theorem Zqdc {g n : Prop} (h : n) (s : Bx n -> g := by (intro h; refine Zqaa ?_; refine Zqcz ?_; exact h.v)) : g := s ⟨h⟩
theorem Zqdd {g n : Prop} (h : n) (s : Bx n -> g := by (intro h; refine Zqaa ?_; refine Zqc0 ?_; exact h.v)) : g := s ⟨h⟩
theorem Zqde {g n : Prop} (h : n) (s : Bx n -> g := by (intro h; refine Zqaa ?_; refine Zqcs ?_; exact h.v)) : g := s ⟨h⟩
theorem Zqdf {g n : Prop} (h : n) (s : Bx n -> g := by (intro h; refine Zqct ?_; refine Zqc8 ?_; exact h.v)) : g := s ⟨h⟩
theorem Zqdg {g n : Prop} (h : n) (s : Bx n -> g := by (intro h; refine Zqcs ?_; refine Zqat ?_; exact h.v)) : g := s ⟨h⟩
theorem Zqdh {g n : Prop} (h : n) (s : Bx n -> g := by (intro h; refine Zqcw ?_; refine Zqcu ?_; exact h.v)) : g := s ⟨h⟩
theorem Zqdi {g n : Prop} (h : n) (s : Bx n -> g := by (intro h; refine Zqal ?_; refine Zqab ?_; exact h.v)) : g := s ⟨h⟩
theorem Zqdj {g n : Prop} (h : n) (s : Bx n -> g := by (intro h; refine Zqan ?_; refine Zqaa ?_; exact h.v)) : g := s ⟨h⟩
theorem Zqdk {g n : Prop} (h : n) (s : Bx n -> g := by (intro h; refine Zqac ?_; refine Zqav ?_; exact h.v)) : g := s ⟨h⟩
theorem Zqdl {g n : Prop} (h : n) (s : Bx n -> g := by (intro h; refine Zqdk ?_; refine Zqc7 ?_; exact h.v)) : g := s ⟨h⟩
theorem Zqdm {g n : Prop} (h : n) (s : Bx n -> g := by (intro h; refine Zqal ?_; refine Zqcs ?_; exact h.v)) : g := s ⟨h⟩
theorem Zqdn {g n : Prop} (h : n) (s : Bx n -> g := by (intro h; refine Zqc7 ?_; refine Zqaq ?_; exact h.v)) : g := s ⟨h⟩
theorem Zqdo {g n : Prop} (h : n) (s : Bx n -> g := by (intro h; refine Zqcs ?_; refine Zqaw ?_; exact h.v)) : g := s ⟨h⟩
theorem Zqdp {g n : Prop} (h : n) (s : Bx n -> g := by (intro h; refine Zqdo ?_; refine Zqc5 ?_; exact h.v)) : g := s ⟨h⟩
theorem Zqdq {g n : Prop} (h : n) (s : Bx n -> g := by (intro h; refine Zqab ?_; refine Zqcy ?_; exact h.v)) : g := s ⟨h⟩
theorem Zqdr {g n : Prop} (h : n) (s : Bx n -> g := by (intro h; refine Zqc9 ?_; refine Zqc9 ?_; exact h.v)) : g := s ⟨h⟩
theorem Zqds {g n : Prop} (h : n) (s : Bx n -> g := by (intro h; refine Zqai ?_; refine Zqc2 ?_; exact h.v)) : g := s ⟨h⟩
theorem Zqdt {g n : Prop} (h : n) (s : Bx n -> g := by (intro h; refine Zqcs ?_; refine Zqc1 ?_; exact h.v)) : g := s ⟨h⟩
theorem Zqdu {g n : Prop} (h : n) (s : Bx n -> g := by (intro h; refine Zqda ?_; refine Zqa1 ?_; exact h.v)) : g := s ⟨h⟩
theorem Zqdv {g n : Prop} (h : n) (s : Bx n -> g := by (intro h; refine Zqcs ?_; refine Zqc4 ?_; exact h.v)) : g := s ⟨h⟩
theorem Zqdw {g n : Prop} (h : n) (s : Bx n -> g := by (intro h; refine Zqcs ?_; refine Zqa0 ?_; exact h.v)) : g := s ⟨h⟩
theorem Zqdx {g n : Prop} (h : n) (s : Bx n -> g := by (intro h; refine Zqcw ?_; refine Zqc0 ?_; exact h.v)) : g := s ⟨h⟩
theorem Zqdy {g n : Prop} (h : n) (s : Bx n -> g := by (intro h; refine Zqau ?_; refine Zqau ?_; exact h.v)) : g := s ⟨h⟩
theorem Zqdz {g n : Prop} (h : n) (s : Bx n -> g := by (intro h; refine Zqdi ?_; refine Zqaq ?_; exact h.v)) : g := s ⟨h⟩
theorem Zqd0 {g n : Prop} (h : n) (s : Bx n -> g := by (intro h; refine Zqa9 ?_; refine Zqdy ?_; exact h.v)) : g := s ⟨h⟩
theorem Zqd1 {g n : Prop} (h : n) (s : Bx n -> g := by (intro h; refine Zqai ?_; refine Zqc4 ?_; exact h.v)) : g := s ⟨h⟩
theorem Zqd2 {g n : Prop} (h : n) (s : Bx n -> g := by (intro h; refine Zqcs ?_; refine Zqan ?_; exact h.v)) : g := s ⟨h⟩
theorem Zqd3 {g n : Prop} (h : n) (s : Bx n -> g := by (intro h; refine Zqcs ?_; refine Zqc3 ?_; exact h.v)) : g := s ⟨h⟩
theorem Zqd4 {g n : Prop} (h : n) (s : Bx n -> g := by (intro h; refine Zqbb ?_; refine Zqad ?_; exact h.v)) : g := s ⟨h⟩
theorem Zqd5 {g n : Prop} (h : n) (s : Bx n -> g := by (intro h; refine Zqas ?_; refine Zqam ?_; exact h.v)) : g := s ⟨h⟩
theorem Zqd6 {g n : Prop} (h : n) (s : Bx n -> g := by (intro h; refine Zqcy ?_; refine Zqah ?_; exact h.v)) : g := s ⟨h⟩
theorem Zqd7 {g n : Prop} (h : n) (s : Bx n -> g := by (intro h; refine Zqa4 ?_; refine Zqaa ?_; exact h.v)) : g := s ⟨h⟩
theorem Zqd8 {g n : Prop} (h : n) (s : Bx n -> g := by (intro h; refine Zqdu ?_; refine Zqa2 ?_; exact h.v)) : g := s ⟨h⟩
theorem Zqd9 {g n : Prop} (h : n) (s : Bx n -> g := by (intro h; refine Zqan ?_; refine Zqcv ?_; exact h.v)) : g := s ⟨h⟩
theorem Zqea {g n : Prop} (h : n) (s : Bx n -> g := by (intro h; refine Zqar ?_; refine Zqcv ?_; exact h.v)) : g := s ⟨h⟩
theorem Zqeb {g n : Prop} (h : n) (s : Bx n -> g := by (intro h; refine Zqdh ?_; refine Zqcz ?_; exact h.v)) : g := s ⟨h⟩
theorem Zqec {g n : Prop} (h : n) (s : Bx n -> g := by (intro h; refine Zqd9 ?_; refine Zqea ?_; exact h.v)) : g := s ⟨h⟩
theorem Zqed {g n : Prop} (h : n) (s : Bx n -> g := by (intro h; refine Zqdf ?_; refine Zqas ?_; exact h.v)) : g := s ⟨h⟩
theorem Zqee {g n : Prop} (h : n) (s : Bx n -> g := by (intro h; refine Zqcs ?_; refine Zqas ?_; exact h.v)) : g := s ⟨h⟩
theorem Zqef {g n : Prop} (h : n) (s : Bx n -> g := by (intro h; refine Zqee ?_; refine Zqc1 ?_; exact h.v)) : g := s ⟨h⟩
theorem Zqeg {g n : Prop} (h : n) (s : Bx n -> g := by (intro h; refine Zqcv ?_; refine Zqc8 ?_; exact h.v)) : g := s ⟨h⟩
theorem Zqeh {g n : Prop} (h : n) (s : Bx n -> g := by (intro h; refine Zqas ?_; refine Zqaa ?_; exact h.v)) : g := s ⟨h⟩
theorem Zqei {g n : Prop} (h : n) (s : Bx n -> g := by (intro h; refine Zqal ?_; refine Zqdl ?_; exact h.v)) : g := s ⟨h⟩
theorem Zqej {g n : Prop} (h : n) (s : Bx n -> g := by (intro h; refine Zqam ?_; refine Zqaa ?_; exact h.v)) : g := s ⟨h⟩
theorem Zqek {g n : Prop} (h : n) (s : Bx n -> g := by (intro h; refine Zqcw ?_; refine Zqcz ?_; exact h.v)) : g := s ⟨h⟩
theorem Zqel {g n : Prop} (h : n) (s : Bx n -> g := by (intro h; refine Zqbh ?_; refine Zqaa ?_; exact h.v)) : g := s ⟨h⟩
theorem Zqem {g n : Prop} (h : n) (s : Bx n -> g := by (intro h; refine Zqac ?_; refine Zqah ?_; exact h.v)) : g := s ⟨h⟩
theorem Zqen {g n : Prop} (h : n) (s : Bx n -> g := by (intro h; refine Zqab ?_; refine Zqcs ?_; exact h.v)) : g := s ⟨h⟩
theorem Zqeo {g n : Prop} (h : n) (s : Bx n -> g := by (intro h; refine Zqc6 ?_; refine Zqc6 ?_; exact h.v)) : g := s ⟨h⟩
theorem Zqep {g n : Prop} (h : n) (s : Bx n -> g := by (intro h; refine Zqaw ?_; refine Zqaa ?_; exact h.v)) : g := s ⟨h⟩
theorem Zqeq {g n : Prop} (h : n) (s : Bx n -> g := by (intro h; refine Zqcs ?_; refine Zqc2 ?_; exact h.v)) : g := s ⟨h⟩
theorem Zqer {g n : Prop} (h : n) (s : Bx n -> g := by (intro h; refine Zqc1 ?_; refine Zqcs ?_; exact h.v)) : g := s ⟨h⟩
theorem Zqes {g n : Prop} (h : n) (s : Bx n -> g := by (intro h; refine Zqdh ?_; refine Zqc0 ?_; exact h.v)) : g := s ⟨h⟩
theorem Zqet {g n : Prop} (h : n) (s : Bx n -> g := by (intro h; refine Zqd0 ?_; refine Zqau ?_; exact h.v)) : g := s ⟨h⟩
theorem Zqeu {g n : Prop} (h : n) (s : Bx n -> g := by (intro h; refine Zqct ?_; refine Zqec ?_; exact h.v)) : g := s ⟨h⟩
theorem Zqev {g n : Prop} (h : n) (s : Bx n -> g := by (intro h; refine Zqaq ?_; refine Zqab ?_; exact h.v)) : g := s ⟨h⟩
theorem Zqew {g n : Prop} (h : n) (s : Bx n -> g := by (intro h; refine Zqc6 ?_; refine Zqcz ?_; exact h.v)) : g := s ⟨h⟩
theorem Zqex {g n : Prop} (h : n) (s : Bx n -> g := by (intro h; refine Zqcv ?_; refine Zqa3 ?_; exact h.v)) : g := s ⟨h⟩
theorem Zqey {g n : Prop} (h : n) (s : Bx n -> g := by (intro h; refine Zqar ?_; refine Zqa1 ?_; exact h.v)) : g := s ⟨h⟩
theorem Zqez {g n : Prop} (h : n) (s : Bx n -> g := by (intro h; refine Zqdr ?_; refine Zqdr ?_; exact h.v)) : g := s ⟨h⟩
theorem Zqe0 {g n : Prop} (h : n) (s : Bx n -> g := by (intro h; refine Zqav ?_; refine Zqc2 ?_; exact h.v)) : g := s ⟨h⟩
theorem Zqe1 {g n : Prop} (h : n) (s : Bx n -> g := by (intro h; refine Zqdz ?_; refine Zqab ?_; exact h.v)) : g := s ⟨h⟩
theorem Zqe2 {g n : Prop} (h : n) (s : Bx n -> g := by (intro h; refine Zqed ?_; refine Zqdd ?_; exact h.v)) : g := s ⟨h⟩
theorem Zqe3 {g n : Prop} (h : n) (s : Bx n -> g := by (intro h; refine Zqcy ?_; refine Zqc4 ?_; exact h.v)) : g := s ⟨h⟩
theorem Zqe4 {g n : Prop} (h : n) (s : Bx n -> g := by (intro h; refine Zqcu ?_; refine Zqc0 ?_; exact h.v)) : g := s ⟨h⟩
theorem Zqe5 {g n : Prop} (h : n) (s : Bx n -> g := by (intro h; refine Zqbo ?_; refine Zqaa ?_; exact h.v)) : g := s ⟨h⟩
theorem Zqe6 {g n : Prop} (h : n) (s : Bx n -> g := by (intro h; refine Zqcy ?_; refine Zqc2 ?_; exact h.v)) : g := s ⟨h⟩
theorem Zqe7 {g n : Prop} (h : n) (s : Bx n -> g := by (intro h; refine Zqcv ?_; refine Zqas ?_; exact h.v)) : g := s ⟨h⟩
theorem Zqe8 {g n : Prop} (h : n) (s : Bx n -> g := by (intro h; refine Zqaa ?_; refine Zqaq ?_; exact h.v)) : g := s ⟨h⟩
theorem Zqe9 {g n : Prop} (h : n) (s : Bx n -> g := by (intro h; refine Zqda ?_; refine Zqbi ?_; exact h.v)) : g := s ⟨h⟩
theorem Zqfa {g n : Prop} (h : n) (s : Bx n -> g := by (intro h; refine Zqcv ?_; refine Zqa2 ?_; exact h.v)) : g := s ⟨h⟩
theorem Zqfb {g n : Prop} (h : n) (s : Bx n -> g := by (intro h; refine Zqcv ?_; refine Zqa5 ?_; exact h.v)) : g := s ⟨h⟩
theorem Zqfc {g n : Prop} (h : n) (s : Bx n -> g := by (intro h; refine Zqai ?_; refine Zqc3 ?_; exact h.v)) : g := s ⟨h⟩
theorem Zqfd {g n : Prop} (h : n) (s : Bx n -> g := by (intro h; refine Zqa8 ?_; refine Zqaa ?_; exact h.v)) : g := s ⟨h⟩
theorem Zqfe {g n : Prop} (h : n) (s : Bx n -> g := by (intro h; refine Zqct ?_; refine Zqat ?_; exact h.v)) : g := s ⟨h⟩
theorem Zqff {g n : Prop} (h : n) (s : Bx n -> g := by (intro h; refine Zqdm ?_; refine Zqc3 ?_; exact h.v)) : g := s ⟨h⟩
theorem Zqfg {g n : Prop} (h : n) (s : Bx n -> g := by (intro h; refine Zqd4 ?_; refine Zqd4 ?_; exact h.v)) : g := s ⟨h⟩
theorem Zqfh {g n : Prop} (h : n) (s : Bx n -> g := by (intro h; refine Zqcz ?_; refine Zqaa ?_; exact h.v)) : g := s ⟨h⟩
theorem Zqfi {g n : Prop} (h : n) (s : Bx n -> g := by (intro h; refine Zqc0 ?_; refine Zqaa ?_; exact h.v)) : g := s ⟨h⟩
theorem Zqfj {g n : Prop} (h : n) (s : Bx n -> g := by (intro h; refine Zqds ?_; refine Zqdq ?_; exact h.v)) : g := s ⟨h⟩
theorem Zqfk {g n : Prop} (h : n) (s : Bx n -> g := by (intro h; refine Zqal ?_; refine Zqaq ?_; exact h.v)) : g := s ⟨h⟩
theorem Zqfl {g n : Prop} (h : n) (s : Bx n -> g := by (intro h; refine Zqdz ?_; refine Zqe6 ?_; exact h.v)) : g := s ⟨h⟩
theorem Zqfm {g n : Prop} (h : n) (s : Bx n -> g := by (intro h; refine Zqcs ?_; refine Zqai ?_; exact h.v)) : g := s ⟨h⟩
theorem Zqfn {g n : Prop} (h : n) (s : Bx n -> g := by (intro h; refine Zqem ?_; refine Zqe0 ?_; exact h.v)) : g := s ⟨h⟩
theorem Zqfo {g n : Prop} (h : n) (s : Bx n -> g := by (intro h; refine Zqcy ?_; refine Zqd5 ?_; exact h.v)) : g := s ⟨h⟩
theorem Zqfp {g n : Prop} (h : n) (s : Bx n -> g := by (intro h; refine Zqbq ?_; refine Zqdn ?_; exact h.v)) : g := s ⟨h⟩
theorem Zqfq {g n : Prop} (h : n) (s : Bx n -> g := by (intro h; refine Zqa0 ?_; refine Zqcv ?_; exact h.v)) : g := s ⟨h⟩
theorem Zqfr {g n : Prop} (h : n) (s : Bx n -> g := by (intro h; refine Zqa7 ?_; refine Zqcv ?_; exact h.v)) : g := s ⟨h⟩
theorem Zqfs {g n : Prop} (h : n) (s : Bx n -> g := by (intro h; refine Zqdg ?_; refine Zqbd ?_; exact h.v)) : g := s ⟨h⟩
theorem Zqft {g n : Prop} (h : n) (s : Bx n -> g := by (intro h; refine Zqaw ?_; refine Zqam ?_; exact h.v)) : g := s ⟨h⟩
theorem Zqfu {g n : Prop} (h : n) (s : Bx n -> g := by (intro h; refine Zqex ?_; refine Zqcv ?_; exact h.v)) : g := s ⟨h⟩
theorem Zqfv {g n : Prop} (h : n) (s : Bx n -> g := by (intro h; refine Zqa5 ?_; refine Zqaa ?_; exact h.v)) : g := s ⟨h⟩
theorem Zqfw {g n : Prop} (h : n) (s : Bx n -> g := by (intro h; refine Zqcs ?_; refine Zqd8 ?_; exact h.v)) : g := s ⟨h⟩
theorem Zqfx {g n : Prop} (h : n) (s : Bx n -> g := by (intro h; refine Zqbj ?_; refine Zqdc ?_; exact h.v)) : g := s ⟨h⟩
theorem Zqfy {g n : Prop} (h : n) (s : Bx n -> g := by (intro h; refine Zqcu ?_; refine Zqcz ?_; exact h.v)) : g := s ⟨h⟩
theorem Zqfz {g n : Prop} (h : n) (s : Bx n -> g := by (intro h; refine Zqcv ?_; refine Zqej ?_; exact h.v)) : g := s ⟨h⟩
theorem Zqf0 {g n : Prop} (h : n) (s : Bx n -> g := by (intro h; refine Zqat ?_; refine Zqah ?_; exact h.v)) : g := s ⟨h⟩
theorem Zqf1 {g n : Prop} (h : n) (s : Bx n -> g := by (intro h; refine Zqcs ?_; refine Zqda ?_; exact h.v)) : g := s ⟨h⟩
theorem Zqf2 {g n : Prop} (h : n) (s : Bx n -> g := by (intro h; refine Zqcy ?_; refine Zqd7 ?_; exact h.v)) : g := s ⟨h⟩
theorem Zqf3 {g n : Prop} (h : n) (s : Bx n -> g := by (intro h; refine Zqa6 ?_; refine Zqcv ?_; exact h.v)) : g := s ⟨h⟩
theorem Zqf4 {g n : Prop} (h : n) (s : Bx n -> g := by (intro h; refine Zqdm ?_; refine Zqc4 ?_; exact h.v)) : g := s ⟨h⟩
theorem Zqf5 {g n : Prop} (h : n) (s : Bx n -> g := by (intro h; refine Zqfe ?_; refine Zqcv ?_; exact h.v)) : g := s ⟨h⟩
theorem Zqf6 {g n : Prop} (h : n) (s : Bx n -> g := by (intro h; refine Zqbx ?_; refine Zqbe ?_; exact h.v)) : g := s ⟨h⟩
theorem Zqf7 {g n : Prop} (h : n) (s : Bx n -> g := by (intro h; refine Zqb4 ?_; refine D7 rfl GC ?_; exact h.v)) : g := s ⟨h⟩
theorem Zqf8 {g n : Prop} (h : n) (s : Bx n -> g := by (intro h; refine Zqdg ?_; refine D7 rfl CA ?_; exact h.v)) : g := s ⟨h⟩
theorem Zqf9 {g n : Prop} (h : n) (s : Bx n -> g := by (intro h; refine Zqe9 ?_; refine Zqa3 ?_; exact h.v)) : g := s ⟨h⟩
theorem Zqga {g n : Prop} (h : n) (s : Bx n -> g := by (intro h; refine Zqcv ?_; refine Zqba ?_; exact h.v)) : g := s ⟨h⟩
theorem Zqgb {g n : Prop} (h : n) (s : Bx n -> g := by (intro h; refine Zqa5 ?_; refine Zqam ?_; exact h.v)) : g := s ⟨h⟩
theorem Zqgc {g n : Prop} (h : n) (s : Bx n -> g := by (intro h; refine Zqbp ?_; refine Zqa3 ?_; exact h.v)) : g := s ⟨h⟩
theorem Zqgd {g n : Prop} (h : n) (s : Bx n -> g := by (intro h; refine Zqc1 ?_; refine Zqen ?_; exact h.v)) : g := s ⟨h⟩
theorem Zqge {g n : Prop} (h : n) (s : Bx n -> g := by (intro h; refine Zqe8 ?_; refine Zqef ?_; exact h.v)) : g := s ⟨h⟩
theorem Zqgf {g n : Prop} (h : n) (s : Bx n -> g := by (intro h; refine Zqc5 ?_; refine Zqcs ?_; exact h.v)) : g := s ⟨h⟩
theorem Zqgg {g n : Prop} (h : n) (s : Bx n -> g := by (intro h; refine Zqet ?_; refine Zqa8 ?_; exact h.v)) : g := s ⟨h⟩
theorem Zqgh {g n : Prop} (h : n) (s : Bx n -> g := by (intro h; refine Zqas ?_; refine Zqc3 ?_; exact h.v)) : g := s ⟨h⟩
theorem Zqgi {g n : Prop} (h : n) (s : Bx n -> g := by (intro h; refine Zqbf ?_; refine Zqam ?_; exact h.v)) : g := s ⟨h⟩
theorem Zqgj {g n : Prop} (h : n) (s : Bx n -> g := by (intro h; refine Zqbw ?_; refine Zqaa ?_; exact h.v)) : g := s ⟨h⟩
theorem Zqgk {g n : Prop} (h : n) (s : Bx n -> g := by (intro h; refine Zqe7 ?_; refine Zqdc ?_; exact h.v)) : g := s ⟨h⟩
theorem Zqgl {g n : Prop} (h : n) (s : Bx n -> g := by (intro h; refine Zqeg ?_; refine Zqfr ?_; exact h.v)) : g := s ⟨h⟩
theorem Zqgm {g n : Prop} (h : n) (s : Bx n -> g := by (intro h; refine Zqcv ?_; refine Zqbe ?_; exact h.v)) : g := s ⟨h⟩
theorem Zqgn {g n : Prop} (h : n) (s : Bx n -> g := by (intro h; refine Zqgm ?_; refine Zqcv ?_; exact h.v)) : g := s ⟨h⟩
end Go.Proofs.YtmnbjcpikllknaaGreatDoor
