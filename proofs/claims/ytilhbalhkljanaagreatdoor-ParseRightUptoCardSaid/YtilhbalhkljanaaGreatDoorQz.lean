/- Short words for the walks. No condition. -/
import Derived.Test.YtilhbalhkljanaaGreatDoorWs
import Derived.Test.YtilhbalhkljanaaGreatDoorTy
import Derived.Test.YtilhbalhkljanaaGreatDoorEng34
import Derived.Test.YtilhbalhkljanaaGreatDoorPf
set_option linter.unusedVariables false
namespace Go.Proofs.YtilhbalhkljanaaGreatDoor
structure Bx (n : Prop) : Prop where
 v : n
theorem ws {p : Prop} (h : p := by (repeat (first | with_reducible exact WS.refl _ | refine WS.add ?_ rfl | exact WS.refl _))) : p := h
theorem tw {p : Prop} (h : p := by (refine ⟨_, hF, .hd (.refl _) ?_⟩; repeat (first | with_reducible exact WS.refl _ | refine WS.add ?_ rfl | exact WS.refl _))) : p := h
theorem th {p : Prop} (h : p := by (first | refine .hd (ia (by assumption)) ?_ | refine .hd (ib (by assumption)) ?_ | refine .hd (eN (by assumption)) ?_ | refine .hd (fU (by assumption)) ?_); (repeat (first | with_reducible exact WS.refl _ | refine WS.add ?_ rfl | exact WS.refl _))) : p := h
theorem rt {p : Prop} (h : p := by (repeat (first | with_reducible refine Exit.sr ?_ | with_reducible refine Exit.br ?_ | with_reducible refine Exit.jr ?_)); refine F6 rfl (by repeat' first | exact .nil | apply RV.tmp (v := .int _ _) rfl | apply RV.tmp (v := .bool _) rfl | apply RV.tmp (v := .str _) rfl | apply RV.tmp (v := .sl _ _ _) rfl | apply RV.tmp (v := .agg _) rfl | apply RV.tmp (v := ifD _) rfl | apply RV.tmp (v := Aq _ _ _) rfl) ?_; first | exact ⟨_, _, .refl _, ok.wh, _, Ak hF, rfl, rfl⟩ | exact ⟨_, _, .refl _, WH.refl _, _, Ak hF, rfl⟩ | (refine ⟨_, _, ?_, ok.wh, _, Ak hF, rfl, rfl⟩; repeat' first | exact .refl _ | exact .zero _ _ _ | exact .nil _ | exact .nil | refine .tupC ?_ | refine .aggC ?_ | refine Wd.toE (.aggC ?_) (Ab _) | refine .cons ?_ ?_) | (refine ⟨_, _, ?_, WH.refl _, _, Ak hF, rfl⟩; repeat' first | exact .refl _ | exact .zero _ _ _ | exact .nil _ | exact .nil | refine .tupC ?_ | refine .aggC ?_ | refine Wd.toE (.aggC ?_) (Ab _) | refine .cons ?_ ?_)) : p := h
theorem oy {h : Heap} {O O' : List (Nat × AObj)} (ok : OK h O) (w : WO O O' := by (repeat' first | exact .refl _ | refine .keep ?_ | refine .drop ?_ | exact .nil)) : OK h O' := (w.spec ok).1
theorem hy {h : Heap} {O O' : List (Nat × AObj)} (ok : OK h O) (w : WO O O' := by (repeat' first | exact .refl _ | refine .keep ?_ | refine .drop ?_ | exact .nil)) : WH (Hp h O) (Hp h O') := (w.spec ok).2.2
theorem wy {n : Nat} {l l' : List (Nat × D)} {h : Heap} {O O' : List (Nat × AObj)} (ok : OK h O) (hl : WL n l l' := by (repeat' first | exact .refl _ | exact .zero _ _ _ | exact .nil _ | exact .nil | refine .tupC ?_ | refine .aggC ?_ | refine Wd.toE (.aggC ?_) (Ab _) | refine .cons ?_ ?_)) (w : WO O O' := by (repeat' first | exact .refl _ | refine .keep ?_ | refine .drop ?_ | exact .nil)) : WS ⟨Al n l, Hp h O⟩ ⟨Al n l', Hp h O'⟩ := WS.mk' hl ok w
theorem okT {ρ β : Type} {P : Program} {g : FuncId} {ds : List D} {H : Heap} {X : Option ρ} {Q : ρ → D → Heap → Prop} {f : ρ → Option β} {G : β → Prop} {R : D → Heap → Prop} (w : ∀ G : ρ → Prop, Am X G → CallsA P g ds H fun d h' => ∃ r, G r ∧ Q r d h') (hF : Am (X.bind f) G) (hk : ∀ r d h', X = some r → Q r d h' → Am (f r) G → R d h') : CallsA P g ds H R := by
 obtain ⟨r0, hr, hF⟩ := BD hF
 refine (w (fun r => r = r0) ⟨r0, hr, rfl⟩).mono ?_
 rintro d h' ⟨r, rfl, hq⟩
 exact hk _ _ _ hr hq hF
theorem xr {g n : Prop} (h : n) (s : Bx n → g := by (intro h; (repeat (first | with_reducible refine Exit.sr ?_ | with_reducible refine Exit.br ?_ | with_reducible refine Exit.jr ?_)); exact h.v)) : g := s ⟨h⟩
theorem rr {g n : Prop} (h : n) (s : Bx n → g := by (intro h; (repeat (first | with_reducible refine Exit.sr ?_ | with_reducible refine Exit.br ?_ | with_reducible refine Exit.jr ?_)); refine F6 rfl (by repeat' first | exact .nil | apply RV.tmp (v := .int _ _) rfl | apply RV.tmp (v := .bool _) rfl | apply RV.tmp (v := .str _) rfl | apply RV.tmp (v := .sl _ _ _) rfl | apply RV.tmp (v := .agg _) rfl | apply RV.tmp (v := ifD _) rfl | apply RV.tmp (v := Aq _ _ _) rfl) ?_; exact h.v)) : g := s ⟨h⟩
theorem cl {P : Program} {md : Nat → Nat} {w : Bool} {ops : Array Oper} {os : List Oper} {k : St → Prop} {n : Nat} {l : List (Nat × D)} {h : Heap} {d : Nat} {ty : TypeId} {pos : String} {af : Array Edge} {g : FuncId} {args : Array Operand} {ts : Array TypeId} {ds : List D} (hc : CallsA P g ds h fun v h' => Av P md w ops os ⟨Al n ((d, v) :: l), h'⟩ k) (hw : WdC (args.toList.map (opL n l)) ds := by (repeat' first | exact .refl _ | exact .zero _ _ _ | exact .nil _ | exact .nil | refine .tupC ?_ | refine .aggC ?_ | refine Wd.toE (.aggC ?_) (Ab _) | refine .cons ?_ ?_)) : Av P md w ops (⟨some d, .call ⟨.value (.func g), args, ts⟩, ty, pos, af, none⟩ :: os) ⟨Al n l, h⟩ k := I3 hc hw
theorem AY {g n : Prop} (h : n) (s : Bx n → g := by (intro h; refine Ju ?_; exact h.v)) : g := s ⟨h⟩
theorem Ec {g n : Prop} (h : n) (s : Bx n → g := by (intro h; refine IQ ?_; exact h.v)) : g := s ⟨h⟩
theorem Hu {g n : Prop} (h : n) (s : Bx n → g := by (intro h; refine CR (mdl []) ?_; exact h.v)) : g := s ⟨h⟩
theorem Z5 {g n : Prop} (h : n) (s : Bx n → g := by (intro h; refine cv ?_; exact h.v)) : g := s ⟨h⟩
theorem gQ {g n : Prop} (h : n) (s : Bx n → g := by (intro h; refine h9 rfl rfl (by assumption) ?_; exact h.v)) : g := s ⟨h⟩
theorem ij {g n : Prop} (h : n) (s : Bx n → g := by (intro h; refine gU ?_; exact h.v)) : g := s ⟨h⟩
theorem gI {g n : Prop} (h : n) (s : Bx n → g := by (intro h; refine Ym rfl rfl (by assumption) ?_; exact h.v)) : g := s ⟨h⟩
theorem Es {g n : Prop} (h : n) (s : Bx n → g := by (intro h; refine S_m (v := .int _ _) rfl ?_; exact h.v)) : g := s ⟨h⟩
theorem O8 {g n : Prop} (h : n) (s : Bx n → g := by (intro h; refine S_a (v := .int _ _) rfl ?_; exact h.v)) : g := s ⟨h⟩
theorem Mn {g n : Prop} (h : n) (s : Bx n → g := by (intro h; refine Oa ?_; exact h.v)) : g := s ⟨h⟩
theorem gV {g n : Prop} (h : n) (s : Bx n → g := by (intro h; refine S_a (v := .bool _) rfl ?_; exact h.v)) : g := s ⟨h⟩
theorem Cl {g n : Prop} (h : n) (s : Bx n → g := by (intro h; refine NA ?_; exact h.v)) : g := s ⟨h⟩
theorem Iw {g n : Prop} (h : n) (s : Bx n → g := by (intro h; refine S_m (v := .ptr _ _) rfl ?_; exact h.v)) : g := s ⟨h⟩
theorem CM {g n : Prop} (h : n) (s : Bx n → g := by (intro h; refine S_m (v := .bool _) rfl ?_; exact h.v)) : g := s ⟨h⟩
theorem ek {g n : Prop} (h : n) (s : Bx n → g := by (intro h; refine UV (v := .bool _) rfl (by assumption) rfl ?_; exact h.v)) : g := s ⟨h⟩
theorem da {g n : Prop} (h : n) (s : Bx n → g := by (intro h; refine ax (v := .bool _) rfl (by assumption) rfl ?_; exact h.v)) : g := s ⟨h⟩
theorem Hy {g n : Prop} (h : n) (s : Bx n → g := by (intro h; refine UO (v := .ptr _ _) rfl rfl ?_; exact h.v)) : g := s ⟨h⟩
theorem JK {g n : Prop} (h : n) (s : Bx n → g := by (intro h; refine S_m (v := .str _) rfl ?_; exact h.v)) : g := s ⟨h⟩
theorem FB {g n : Prop} (h : n) (s : Bx n → g := by (intro h; refine ZF ?_; exact h.v)) : g := s ⟨h⟩
theorem O9 {g n : Prop} (h : n) (s : Bx n → g := by (intro h; refine gq rfl rfl ?_; exact h.v)) : g := s ⟨h⟩
theorem Jp {g n : Prop} (h : n) (s : Bx n → g := by (intro h; refine S_m (v := .sl _ _ _) rfl ?_; exact h.v)) : g := s ⟨h⟩
theorem T0 {g n : Prop} (h : n) (s : Bx n → g := by (intro h; refine D4 rfl rfl (Yq ..) ?_; exact h.v)) : g := s ⟨h⟩
theorem I6 {g n : Prop} (h : n) (s : Bx n → g := by (intro h; refine D4 rfl rfl (Yy ..) ?_; exact h.v)) : g := s ⟨h⟩
theorem Ww {g n : Prop} (h : n) (s : Bx n → g := by (intro h; refine D4 rfl rfl (ZZ ..) ?_; exact h.v)) : g := s ⟨h⟩
theorem LG {g n : Prop} (h : n) (s : Bx n → g := by (intro h; refine S_m (v := Aq _ _ _) rfl ?_; exact h.v)) : g := s ⟨h⟩
theorem ig {g n : Prop} (h : n) (s : Bx n → g := by (intro h; refine au ?_; exact h.v)) : g := s ⟨h⟩
theorem gP {g n : Prop} (h : n) (s : Bx n → g := by (intro h; simp only [Exit.sel, Exit.blk, Exit.jmp, if_true, if_false, reduceIte, Nat.reduceEqDiff, Nat.succ_ne_zero, Nat.zero_ne_one, Nat.one_ne_zero]; exact h.v)) : g := s ⟨h⟩
theorem fm {g n : Prop} (h : n) (s : Bx n → g := by (intro h; refine DF rfl Te AN ?_; exact h.v)) : g := s ⟨h⟩
theorem R4 {g n : Prop} (h : n) (s : Bx n → g := by (intro h; refine D4 rfl rfl (Yp ..) ?_; exact h.v)) : g := s ⟨h⟩
theorem gM {g n : Prop} (h : n) (s : Bx n → g := by (intro h; refine S_m (v := .tup _) rfl ?_; exact h.v)) : g := s ⟨h⟩
theorem IM {g n : Prop} (h : n) (s : Bx n → g := by (intro h; refine S_a (v := .str _) rfl ?_; exact h.v)) : g := s ⟨h⟩
theorem LK {g n : Prop} (h : n) (s : Bx n → g := by (intro h; refine D4 rfl rfl cD ?_; exact h.v)) : g := s ⟨h⟩
theorem T3 {g n : Prop} (h : n) (s : Bx n → g := by (intro h; refine DT (j := 0) ok rfl rfl rfl (by assumption) (Bf (v := .int _ _) EN AN rfl) ?_; exact h.v)) : g := s ⟨h⟩
theorem Ix {g n : Prop} (h : n) (s : Bx n → g := by (intro h; refine D4 rfl rfl (Td ..) ?_; exact h.v)) : g := s ⟨h⟩
theorem Sk {g n : Prop} (h : n) (s : Bx n → g := by (intro h; refine D4 rfl rfl (XF ..) ?_; exact h.v)) : g := s ⟨h⟩
theorem Nb {g n : Prop} (h : n) (s : Bx n → g := by (intro h; refine gH rfl (Z0 _) ?_; exact h.v)) : g := s ⟨h⟩
theorem F7 {g n : Prop} (h : n) (s : Bx n → g := by (intro h; refine AX rfl (Bf BN As rfl) ?_; exact h.v)) : g := s ⟨h⟩
theorem gL {g n : Prop} (h : n) (s : Bx n → g := by (intro h; refine em rfl rfl ?_; exact h.v)) : g := s ⟨h⟩
theorem Mv {g n : Prop} (h : n) (s : Bx n → g := by (intro h; refine cg rfl CB ?_; exact h.v)) : g := s ⟨h⟩
theorem Lc {g n : Prop} (h : n) (s : Bx n → g := by (intro h; refine D4 rfl rfl (Zd ..) ?_; exact h.v)) : g := s ⟨h⟩
theorem Sd {g n : Prop} (h : n) (s : Bx n → g := by (intro h; refine S_a (v := .sl _ _ _) rfl ?_; exact h.v)) : g := s ⟨h⟩
theorem Le {g n : Prop} (h : n) (s : Bx n → g := by (intro h; refine S_m (v := .fn (.func _) _ _) rfl ?_; exact h.v)) : g := s ⟨h⟩
theorem Mc {g n : Prop} (h : n) (s : Bx n → g := by (intro h; refine HU rfl Ca ?_; exact h.v)) : g := s ⟨h⟩
theorem V1 {g n : Prop} (h : n) (s : Bx n → g := by (intro h; refine D4 rfl rfl (XE ..) ?_; exact h.v)) : g := s ⟨h⟩
theorem RA {g n : Prop} (h : n) (s : Bx n → g := by (intro h; refine D4 rfl rfl dq ?_; exact h.v)) : g := s ⟨h⟩
theorem fq {g n : Prop} (h : n) (s : Bx n → g := by (intro h; refine DF rfl Ti AN ?_; exact h.v)) : g := s ⟨h⟩
theorem bd {g n : Prop} (h : n) (s : Bx n → g := by (intro h; refine AX rfl (Bf aV Dw rfl) ?_; exact h.v)) : g := s ⟨h⟩
theorem aE {g n : Prop} (h : n) (s : Bx n → g := by (intro h; refine DF rfl Um NO ?_; exact h.v)) : g := s ⟨h⟩
theorem R9 {g n : Prop} (h : n) (s : Bx n → g := by (intro h; refine DF rfl Lp GE ?_; exact h.v)) : g := s ⟨h⟩
theorem X3 {g n : Prop} (h : n) (s : Bx n → g := by (intro h; refine S_a (v := Aq _ _ _) rfl ?_; exact h.v)) : g := s ⟨h⟩
theorem ea {g n : Prop} (h : n) (s : Bx n → g := by (intro h; refine DT (j := 0) ok rfl rfl rfl (by assumption) (Bf (v := .sl _ _ _) S5 NO rfl) ?_; exact h.v)) : g := s ⟨h⟩
theorem WY {g n : Prop} (h : n) (s : Bx n → g := by (intro h; refine DF rfl Do Bw ?_; exact h.v)) : g := s ⟨h⟩
theorem Re {g n : Prop} (h : n) (s : Bx n → g := by (intro h; refine Lb rfl (fg Ca KI CB) ?_; exact h.v)) : g := s ⟨h⟩
theorem bf {g n : Prop} (h : n) (s : Bx n → g := by (intro h; refine DF rfl Uq AK ?_; exact h.v)) : g := s ⟨h⟩
theorem Pv {g n : Prop} (h : n) (s : Bx n → g := by (intro h; refine HU rfl C7 ?_; exact h.v)) : g := s ⟨h⟩
theorem Q0 {g n : Prop} (h : n) (s : Bx n → g := by (intro h; refine HU rfl BK ?_; exact h.v)) : g := s ⟨h⟩
theorem eK {g n : Prop} (h : n) (s : Bx n → g := by (intro h; refine DF rfl Lf AN ?_; exact h.v)) : g := s ⟨h⟩
theorem Sr {g n : Prop} (h : n) (s : Bx n → g := by (intro h; refine DT (j := 0) ok rfl rfl rfl (by assumption) (Bf (v := .str _) BN As rfl) ?_; exact h.v)) : g := s ⟨h⟩
theorem SV {g n : Prop} (h : n) (s : Bx n → g := by (intro h; refine Br rfl JZ Bz rfl ?_; exact h.v)) : g := s ⟨h⟩
theorem UC {g n : Prop} (h : n) (s : Bx n → g := by (intro h; refine Br rfl K8 As rfl ?_; exact h.v)) : g := s ⟨h⟩
theorem ik {g n : Prop} (h : n) (s : Bx n → g := by (intro h; refine DT (j := 0) ok rfl rfl rfl (by assumption) (Bf (v := .msl _ _ _ _) Lr GE rfl) ?_; exact h.v)) : g := s ⟨h⟩
theorem Wf {g n : Prop} (h : n) (s : Bx n → g := by (intro h; refine Br rfl Lh As rfl ?_; exact h.v)) : g := s ⟨h⟩
theorem V0 {g n : Prop} (h : n) (s : Bx n → g := by (intro h; refine DF rfl T4 L4 ?_; exact h.v)) : g := s ⟨h⟩
theorem ZN {g n : Prop} (h : n) (s : Bx n → g := by (intro h; refine cN rfl rfl Ca CB KI ?_; exact h.v)) : g := s ⟨h⟩
theorem YF {g n : Prop} (h : n) (s : Bx n → g := by (intro h; refine DF rfl Lk GB ?_; exact h.v)) : g := s ⟨h⟩
theorem ZO {g n : Prop} (h : n) (s : Bx n → g := by (intro h; refine DF rfl JQ As ?_; exact h.v)) : g := s ⟨h⟩
theorem YR {g n : Prop} (h : n) (s : Bx n → g := by (intro h; refine DF rfl RK As ?_; exact h.v)) : g := s ⟨h⟩
theorem Ye {g n : Prop} (h : n) (s : Bx n → g := by (intro h; refine S_a (v := .ptr _ _) rfl ?_; exact h.v)) : g := s ⟨h⟩
theorem Zn {g n : Prop} (h : n) (s : Bx n → g := by (intro h; refine AX rfl (Bf EN AN rfl) ?_; exact h.v)) : g := s ⟨h⟩
theorem ZS {g n : Prop} (h : n) (s : Bx n → g := by (intro h; refine Br rfl K6 As rfl ?_; exact h.v)) : g := s ⟨h⟩
theorem Zf {g n : Prop} (h : n) (s : Bx n → g := by (intro h; refine DT (j := 2) ok rfl rfl rfl (by assumption) (Bf (v := .msl _ _ _ _) Lr GE rfl) ?_; exact h.v)) : g := s ⟨h⟩
theorem Z8 {g n : Prop} (h : n) (s : Bx n → g := by (intro h; refine DT (j := 1) ok rfl rfl rfl (by assumption) (Bf (v := .int _ _) EN AN rfl) ?_; exact h.v)) : g := s ⟨h⟩
theorem aN {g n : Prop} (h : n) (s : Bx n → g := by (intro h; refine Lb rfl (Yn X5 QJ) ?_; exact h.v)) : g := s ⟨h⟩
theorem aa {g n : Prop} (h : n) (s : Bx n → g := by (intro h; refine Lb rfl (Yn VF XG) ?_; exact h.v)) : g := s ⟨h⟩
theorem aM {g n : Prop} (h : n) (s : Bx n → g := by (intro h; refine Br rfl Je As rfl ?_; exact h.v)) : g := s ⟨h⟩
theorem ar {g n : Prop} (h : n) (s : Bx n → g := by (intro h; refine DT (j := 2) ok rfl rfl rfl (by assumption) (Bf (v := .sl _ _ _) Dl Bw rfl) ?_; exact h.v)) : g := s ⟨h⟩
theorem b9 {g n : Prop} (h : n) (s : Bx n → g := by (intro h; refine DT (j := 2) ok rfl rfl rfl (by assumption) (Bf (v := .str _) BN As rfl) ?_; exact h.v)) : g := s ⟨h⟩
theorem dS {g n : Prop} (h : n) (s : Bx n → g := by (intro h; refine DT (j := 1) ok rfl rfl rfl (by assumption) (Bf (v := .str _) BN As rfl) ?_; exact h.v)) : g := s ⟨h⟩
theorem eE {g n : Prop} (h : n) (s : Bx n → g := by (intro h; refine DT (j := 2) ok rfl rfl rfl (by assumption) (Bf (v := .int _ _) EN AN rfl) ?_; exact h.v)) : g := s ⟨h⟩
theorem e8 {g n : Prop} (h : n) (s : Bx n → g := by (intro h; refine DT (j := 2) ok rfl rfl rfl (by assumption) (Bf (v := Aq _ _ _) LX GB rfl) ?_; exact h.v)) : g := s ⟨h⟩
theorem eY {g n : Prop} (h : n) (s : Bx n → g := by (intro h; refine DT (j := 0) ok rfl rfl rfl (by assumption) (Bf (v := .bool _) Vs L4 rfl) ?_; exact h.v)) : g := s ⟨h⟩
theorem fW {g n : Prop} (h : n) (s : Bx n → g := by (intro h; refine DT (j := 2) ok rfl rfl rfl (by assumption) (Bf (v := .bool _) Vs L4 rfl) ?_; exact h.v)) : g := s ⟨h⟩
theorem Bg {g n : Prop} (h : n) (s : Bx n → g := by (intro h; refine Ec ?_; refine Hu ?_; exact h.v)) : g := s ⟨h⟩
theorem D3 {g n : Prop} (h : n) (s : Bx n → g := by (intro h; refine gQ ?_; refine ij ?_; exact h.v)) : g := s ⟨h⟩
theorem Ov {g n : Prop} (h : n) (s : Bx n → g := by (intro h; refine gI ?_; refine Z5 ?_; exact h.v)) : g := s ⟨h⟩
theorem AF {g n : Prop} (h : n) (s : Bx n → g := by (intro h; refine AY ?_; refine D3 ?_; exact h.v)) : g := s ⟨h⟩
theorem Fx {g n : Prop} (h : n) (s : Bx n → g := by (intro h; refine O8 ?_; refine AY ?_; exact h.v)) : g := s ⟨h⟩
theorem M9 {g n : Prop} (h : n) (s : Bx n → g := by (intro h; refine Ov ?_; refine Ov ?_; exact h.v)) : g := s ⟨h⟩
theorem CS {g n : Prop} (h : n) (s : Bx n → g := by (intro h; refine gV ?_; refine AY ?_; exact h.v)) : g := s ⟨h⟩
theorem FA {g n : Prop} (h : n) (s : Bx n → g := by (intro h; refine Bg ?_; refine Es ?_; exact h.v)) : g := s ⟨h⟩
theorem Fp {g n : Prop} (h : n) (s : Bx n → g := by (intro h; refine Fx ?_; refine Mn ?_; exact h.v)) : g := s ⟨h⟩
theorem KN {g n : Prop} (h : n) (s : Bx n → g := by (intro h; refine ek ?_; refine AY ?_; exact h.v)) : g := s ⟨h⟩
theorem M6 {g n : Prop} (h : n) (s : Bx n → g := by (intro h; refine da ?_; refine AY ?_; exact h.v)) : g := s ⟨h⟩
theorem GF {g n : Prop} (h : n) (s : Bx n → g := by (intro h; refine Bg ?_; refine Iw ?_; exact h.v)) : g := s ⟨h⟩
theorem Ep {g n : Prop} (h : n) (s : Bx n → g := by (intro h; refine CS ?_; refine Mn ?_; exact h.v)) : g := s ⟨h⟩
theorem GU {g n : Prop} (h : n) (s : Bx n → g := by (intro h; refine M9 ?_; refine M9 ?_; exact h.v)) : g := s ⟨h⟩
theorem W0 {g n : Prop} (h : n) (s : Bx n → g := by (intro h; refine Es ?_; refine AF ?_; exact h.v)) : g := s ⟨h⟩
theorem DI {g n : Prop} (h : n) (s : Bx n → g := by (intro h; refine Bg ?_; refine Fp ?_; exact h.v)) : g := s ⟨h⟩
theorem Hv {g n : Prop} (h : n) (s : Bx n → g := by (intro h; refine AY ?_; refine KN ?_; exact h.v)) : g := s ⟨h⟩
theorem I1 {g n : Prop} (h : n) (s : Bx n → g := by (intro h; refine Ec ?_; refine FA ?_; exact h.v)) : g := s ⟨h⟩
theorem Fz {g n : Prop} (h : n) (s : Bx n → g := by (intro h; refine Bg ?_; refine JK ?_; exact h.v)) : g := s ⟨h⟩
theorem DS {g n : Prop} (h : n) (s : Bx n → g := by (intro h; refine ig ?_; refine gP ?_; exact h.v)) : g := s ⟨h⟩
theorem EK {g n : Prop} (h : n) (s : Bx n → g := by (intro h; refine AY ?_; refine M6 ?_; exact h.v)) : g := s ⟨h⟩
theorem ET {g n : Prop} (h : n) (s : Bx n → g := by (intro h; refine Bg ?_; refine Jp ?_; exact h.v)) : g := s ⟨h⟩
theorem Ht {g n : Prop} (h : n) (s : Bx n → g := by (intro h; refine AY ?_; refine Ec ?_; exact h.v)) : g := s ⟨h⟩
theorem ei {g n : Prop} (h : n) (s : Bx n → g := by (intro h; refine Es ?_; refine AY ?_; exact h.v)) : g := s ⟨h⟩
theorem HE {g n : Prop} (h : n) (s : Bx n → g := by (intro h; refine Cl ?_; refine Ec ?_; exact h.v)) : g := s ⟨h⟩
theorem KO {g n : Prop} (h : n) (s : Bx n → g := by (intro h; refine D3 ?_; refine W0 ?_; exact h.v)) : g := s ⟨h⟩
theorem Zp {g n : Prop} (h : n) (s : Bx n → g := by (intro h; refine O9 ?_; refine O9 ?_; exact h.v)) : g := s ⟨h⟩
theorem L5 {g n : Prop} (h : n) (s : Bx n → g := by (intro h; refine Hy ?_; refine fm ?_; exact h.v)) : g := s ⟨h⟩
theorem I7 {g n : Prop} (h : n) (s : Bx n → g := by (intro h; refine gM ?_; refine Zp ?_; exact h.v)) : g := s ⟨h⟩
theorem GV {g n : Prop} (h : n) (s : Bx n → g := by (intro h; refine LG ?_; refine Es ?_; exact h.v)) : g := s ⟨h⟩
theorem Wp {g n : Prop} (h : n) (s : Bx n → g := by (intro h; refine M9 ?_; refine Ov ?_; exact h.v)) : g := s ⟨h⟩
theorem IU {g n : Prop} (h : n) (s : Bx n → g := by (intro h; refine O8 ?_; refine Fp ?_; exact h.v)) : g := s ⟨h⟩
theorem Jn {g n : Prop} (h : n) (s : Bx n → g := by (intro h; refine Es ?_; refine I6 ?_; exact h.v)) : g := s ⟨h⟩
theorem HI {g n : Prop} (h : n) (s : Bx n → g := by (intro h; refine Bg ?_; refine Fx ?_; exact h.v)) : g := s ⟨h⟩
theorem Za {g n : Prop} (h : n) (s : Bx n → g := by (intro h; refine gL ?_; refine Z5 ?_; exact h.v)) : g := s ⟨h⟩
theorem IY {g n : Prop} (h : n) (s : Bx n → g := by (intro h; refine O8 ?_; refine Fx ?_; exact h.v)) : g := s ⟨h⟩
theorem If {g n : Prop} (h : n) (s : Bx n → g := by (intro h; refine FA ?_; refine Fp ?_; exact h.v)) : g := s ⟨h⟩
theorem MB {g n : Prop} (h : n) (s : Bx n → g := by (intro h; refine R4 ?_; refine AY ?_; exact h.v)) : g := s ⟨h⟩
theorem Pa {g n : Prop} (h : n) (s : Bx n → g := by (intro h; refine L5 ?_; refine T3 ?_; exact h.v)) : g := s ⟨h⟩
theorem Ul {g n : Prop} (h : n) (s : Bx n → g := by (intro h; refine JK ?_; refine AF ?_; exact h.v)) : g := s ⟨h⟩
theorem Ic {g n : Prop} (h : n) (s : Bx n → g := by (intro h; refine Bg ?_; refine CS ?_; exact h.v)) : g := s ⟨h⟩
theorem Ia {g n : Prop} (h : n) (s : Bx n → g := by (intro h; refine ei ?_; refine FB ?_; exact h.v)) : g := s ⟨h⟩
theorem ic {g n : Prop} (h : n) (s : Bx n → g := by (intro h; refine Bg ?_; refine Ww ?_; exact h.v)) : g := s ⟨h⟩
theorem Ih {g n : Prop} (h : n) (s : Bx n → g := by (intro h; refine ic ?_; refine Ht ?_; exact h.v)) : g := s ⟨h⟩
theorem gT {g n : Prop} (h : n) (s : Bx n → g := by (intro h; refine Hu ?_; refine I6 ?_; exact h.v)) : g := s ⟨h⟩
theorem R5 {g n : Prop} (h : n) (s : Bx n → g := by (intro h; refine gT ?_; refine ei ?_; exact h.v)) : g := s ⟨h⟩
theorem Ki {g n : Prop} (h : n) (s : Bx n → g := by (intro h; refine Bg ?_; refine Ep ?_; exact h.v)) : g := s ⟨h⟩
theorem Ib {g n : Prop} (h : n) (s : Bx n → g := by (intro h; refine FA ?_; refine Es ?_; exact h.v)) : g := s ⟨h⟩
theorem K9 {g n : Prop} (h : n) (s : Bx n → g := by (intro h; refine Ww ?_; refine AY ?_; exact h.v)) : g := s ⟨h⟩
theorem Ii {g n : Prop} (h : n) (s : Bx n → g := by (intro h; refine AY ?_; refine GF ?_; exact h.v)) : g := s ⟨h⟩
theorem IE {g n : Prop} (h : n) (s : Bx n → g := by (intro h; refine M9 ?_; refine M6 ?_; exact h.v)) : g := s ⟨h⟩
theorem II {g n : Prop} (h : n) (s : Bx n → g := by (intro h; refine T0 ?_; refine CM ?_; exact h.v)) : g := s ⟨h⟩
theorem Sn {g n : Prop} (h : n) (s : Bx n → g := by (intro h; refine HE ?_; refine FB ?_; exact h.v)) : g := s ⟨h⟩
theorem Md {g n : Prop} (h : n) (s : Bx n → g := by (intro h; refine M9 ?_; refine KN ?_; exact h.v)) : g := s ⟨h⟩
theorem Mq {g n : Prop} (h : n) (s : Bx n → g := by (intro h; refine Iw ?_; refine Hy ?_; exact h.v)) : g := s ⟨h⟩
theorem Ln {g n : Prop} (h : n) (s : Bx n → g := by (intro h; refine Fx ?_; refine I1 ?_; exact h.v)) : g := s ⟨h⟩
theorem Pw {g n : Prop} (h : n) (s : Bx n → g := by (intro h; refine T0 ?_; refine CS ?_; exact h.v)) : g := s ⟨h⟩
theorem RH {g n : Prop} (h : n) (s : Bx n → g := by (intro h; refine Hu ?_; refine Es ?_; exact h.v)) : g := s ⟨h⟩
theorem fR {g n : Prop} (h : n) (s : Bx n → g := by (intro h; refine Iw ?_; refine AF ?_; exact h.v)) : g := s ⟨h⟩
theorem YM {g n : Prop} (h : n) (s : Bx n → g := by (intro h; refine D3 ?_; refine fR ?_; exact h.v)) : g := s ⟨h⟩
theorem WX {g n : Prop} (h : n) (s : Bx n → g := by (intro h; refine GU ?_; refine Ov ?_; exact h.v)) : g := s ⟨h⟩
theorem NQ {g n : Prop} (h : n) (s : Bx n → g := by (intro h; refine FA ?_; refine Fx ?_; exact h.v)) : g := s ⟨h⟩
theorem Km {g n : Prop} (h : n) (s : Bx n → g := by (intro h; refine Cl ?_; refine GF ?_; exact h.v)) : g := s ⟨h⟩
theorem Kp {g n : Prop} (h : n) (s : Bx n → g := by (intro h; refine D3 ?_; refine Ul ?_; exact h.v)) : g := s ⟨h⟩
theorem NU {g n : Prop} (h : n) (s : Bx n → g := by (intro h; refine FB ?_; refine Bg ?_; exact h.v)) : g := s ⟨h⟩
theorem NK {g n : Prop} (h : n) (s : Bx n → g := by (intro h; refine Sd ?_; refine AY ?_; exact h.v)) : g := s ⟨h⟩
theorem ep {g n : Prop} (h : n) (s : Bx n → g := by (intro h; refine Hy ?_; refine AF ?_; exact h.v)) : g := s ⟨h⟩
theorem Zr {g n : Prop} (h : n) (s : Bx n → g := by (intro h; refine Jn ?_; refine Fx ?_; exact h.v)) : g := s ⟨h⟩
theorem KK {g n : Prop} (h : n) (s : Bx n → g := by (intro h; refine Wp ?_; refine M6 ?_; exact h.v)) : g := s ⟨h⟩
theorem KM {g n : Prop} (h : n) (s : Bx n → g := by (intro h; refine CS ?_; refine Bg ?_; exact h.v)) : g := s ⟨h⟩
theorem Po {g n : Prop} (h : n) (s : Bx n → g := by (intro h; refine I1 ?_; refine Es ?_; exact h.v)) : g := s ⟨h⟩
theorem Ph {g n : Prop} (h : n) (s : Bx n → g := by (intro h; refine GF ?_; refine Hy ?_; exact h.v)) : g := s ⟨h⟩
theorem V2 {g n : Prop} (h : n) (s : Bx n → g := by (intro h; refine Jp ?_; refine AF ?_; exact h.v)) : g := s ⟨h⟩
theorem KZ {g n : Prop} (h : n) (s : Bx n → g := by (intro h; refine Cl ?_; refine R5 ?_; exact h.v)) : g := s ⟨h⟩
theorem Tv {g n : Prop} (h : n) (s : Bx n → g := by (intro h; refine KO ?_; refine T0 ?_; exact h.v)) : g := s ⟨h⟩
theorem Lm {g n : Prop} (h : n) (s : Bx n → g := by (intro h; refine GU ?_; refine KN ?_; exact h.v)) : g := s ⟨h⟩
theorem LY {g n : Prop} (h : n) (s : Bx n → g := by (intro h; refine T0 ?_; refine AY ?_; exact h.v)) : g := s ⟨h⟩
theorem W3 {g n : Prop} (h : n) (s : Bx n → g := by (intro h; refine AF ?_; refine Sk ?_; exact h.v)) : g := s ⟨h⟩
theorem Zh {g n : Prop} (h : n) (s : Bx n → g := by (intro h; refine AF ?_; refine T0 ?_; exact h.v)) : g := s ⟨h⟩
theorem Qj {g n : Prop} (h : n) (s : Bx n → g := by (intro h; refine I7 ?_; refine O9 ?_; exact h.v)) : g := s ⟨h⟩
theorem Qm {g n : Prop} (h : n) (s : Bx n → g := by (intro h; refine Iw ?_; refine Pa ?_; exact h.v)) : g := s ⟨h⟩
theorem UM {g n : Prop} (h : n) (s : Bx n → g := by (intro h; refine YM ?_; refine ep ?_; exact h.v)) : g := s ⟨h⟩
theorem Qh {g n : Prop} (h : n) (s : Bx n → g := by (intro h; refine Za ?_; refine Za ?_; exact h.v)) : g := s ⟨h⟩
theorem MA {g n : Prop} (h : n) (s : Bx n → g := by (intro h; refine WX ?_; refine M6 ?_; exact h.v)) : g := s ⟨h⟩
theorem Mt {g n : Prop} (h : n) (s : Bx n → g := by (intro h; refine Fx ?_; refine Ec ?_; exact h.v)) : g := s ⟨h⟩
theorem Ms {g n : Prop} (h : n) (s : Bx n → g := by (intro h; refine AY ?_; refine Bg ?_; exact h.v)) : g := s ⟨h⟩
theorem Uw {g n : Prop} (h : n) (s : Bx n → g := by (intro h; refine CM ?_; refine AY ?_; exact h.v)) : g := s ⟨h⟩
theorem O4 {g n : Prop} (h : n) (s : Bx n → g := by (intro h; refine Hu ?_; refine Zr ?_; exact h.v)) : g := s ⟨h⟩
theorem Nf {g n : Prop} (h : n) (s : Bx n → g := by (intro h; refine LK ?_; refine CS ?_; exact h.v)) : g := s ⟨h⟩
theorem Yv {g n : Prop} (h : n) (s : Bx n → g := by (intro h; refine Fx ?_; refine FA ?_; exact h.v)) : g := s ⟨h⟩
theorem Nc {g n : Prop} (h : n) (s : Bx n → g := by (intro h; refine Ec ?_; refine Bg ?_; exact h.v)) : g := s ⟨h⟩
theorem OC {g n : Prop} (h : n) (s : Bx n → g := by (intro h; refine Nb ?_; refine AY ?_; exact h.v)) : g := s ⟨h⟩
theorem OA {g n : Prop} (h : n) (s : Bx n → g := by (intro h; refine AF ?_; refine Nb ?_; exact h.v)) : g := s ⟨h⟩
theorem Od {g n : Prop} (h : n) (s : Bx n → g := by (intro h; refine Wp ?_; refine KN ?_; exact h.v)) : g := s ⟨h⟩
theorem O0 {g n : Prop} (h : n) (s : Bx n → g := by (intro h; refine GV ?_; refine Es ?_; exact h.v)) : g := s ⟨h⟩
theorem Xf {g n : Prop} (h : n) (s : Bx n → g := by (intro h; refine D3 ?_; refine V2 ?_; exact h.v)) : g := s ⟨h⟩
theorem O5 {g n : Prop} (h : n) (s : Bx n → g := by (intro h; refine FB ?_; refine FA ?_; exact h.v)) : g := s ⟨h⟩
theorem Tq {g n : Prop} (h : n) (s : Bx n → g := by (intro h; refine Zh ?_; refine Hv ?_; exact h.v)) : g := s ⟨h⟩
theorem dD {g n : Prop} (h : n) (s : Bx n → g := by (intro h; refine aE ?_; refine ea ?_; exact h.v)) : g := s ⟨h⟩
theorem Ps {g n : Prop} (h : n) (s : Bx n → g := by (intro h; refine AF ?_; refine W0 ?_; exact h.v)) : g := s ⟨h⟩
theorem TE {g n : Prop} (h : n) (s : Bx n → g := by (intro h; refine GU ?_; refine M6 ?_; exact h.v)) : g := s ⟨h⟩
theorem dW {g n : Prop} (h : n) (s : Bx n → g := by (intro h; refine AF ?_; refine T3 ?_; exact h.v)) : g := s ⟨h⟩
theorem dL {g n : Prop} (h : n) (s : Bx n → g := by (intro h; refine W3 ?_; refine Hv ?_; exact h.v)) : g := s ⟨h⟩
theorem Pq {g n : Prop} (h : n) (s : Bx n → g := by (intro h; refine Bg ?_; refine Pw ?_; exact h.v)) : g := s ⟨h⟩
theorem RE {g n : Prop} (h : n) (s : Bx n → g := by (intro h; refine Lc ?_; refine CM ?_; exact h.v)) : g := s ⟨h⟩
theorem RJ {g n : Prop} (h : n) (s : Bx n → g := by (intro h; refine Tv ?_; refine EK ?_; exact h.v)) : g := s ⟨h⟩
theorem Qz {g n : Prop} (h : n) (s : Bx n → g := by (intro h; refine Bg ?_; refine IU ?_; exact h.v)) : g := s ⟨h⟩
theorem Rf {g n : Prop} (h : n) (s : Bx n → g := by (intro h; refine GF ?_; refine Iw ?_; exact h.v)) : g := s ⟨h⟩
theorem Q1 {g n : Prop} (h : n) (s : Bx n → g := by (intro h; refine Fz ?_; refine JK ?_; exact h.v)) : g := s ⟨h⟩
theorem dJ {g n : Prop} (h : n) (s : Bx n → g := by (intro h; refine KO ?_; refine V1 ?_; exact h.v)) : g := s ⟨h⟩
theorem S7 {g n : Prop} (h : n) (s : Bx n → g := by (intro h; refine Jp ?_; refine Es ?_; exact h.v)) : g := s ⟨h⟩
theorem QB {g n : Prop} (h : n) (s : Bx n → g := by (intro h; refine Ix ?_; refine Fx ?_; exact h.v)) : g := s ⟨h⟩
theorem Q5 {g n : Prop} (h : n) (s : Bx n → g := by (intro h; refine Hu ?_; refine Iw ?_; exact h.v)) : g := s ⟨h⟩
theorem Rk {g n : Prop} (h : n) (s : Bx n → g := by (intro h; refine Cl ?_; refine If ?_; exact h.v)) : g := s ⟨h⟩
theorem Sa {g n : Prop} (h : n) (s : Bx n → g := by (intro h; refine X3 ?_; refine AY ?_; exact h.v)) : g := s ⟨h⟩
theorem SG {g n : Prop} (h : n) (s : Bx n → g := by (intro h; refine Bg ?_; refine LG ?_; exact h.v)) : g := s ⟨h⟩
theorem RZ {g n : Prop} (h : n) (s : Bx n → g := by (intro h; refine O8 ?_; refine IU ?_; exact h.v)) : g := s ⟨h⟩
theorem Xo {g n : Prop} (h : n) (s : Bx n → g := by (intro h; refine ET ?_; refine Es ?_; exact h.v)) : g := s ⟨h⟩
theorem cS {g n : Prop} (h : n) (s : Bx n → g := by (intro h; refine Mq ?_; refine dD ?_; exact h.v)) : g := s ⟨h⟩
theorem RR {g n : Prop} (h : n) (s : Bx n → g := by (intro h; refine I6 ?_; refine L5 ?_; exact h.v)) : g := s ⟨h⟩
theorem Sg {g n : Prop} (h : n) (s : Bx n → g := by (intro h; refine I7 ?_; refine IM ?_; exact h.v)) : g := s ⟨h⟩
theorem RB {g n : Prop} (h : n) (s : Bx n → g := by (intro h; refine CM ?_; refine CM ?_; exact h.v)) : g := s ⟨h⟩
theorem Sl {g n : Prop} (h : n) (s : Bx n → g := by (intro h; refine Fz ?_; refine LK ?_; exact h.v)) : g := s ⟨h⟩
theorem Tz {g n : Prop} (h : n) (s : Bx n → g := by (intro h; refine R4 ?_; refine CM ?_; exact h.v)) : g := s ⟨h⟩
theorem Se {g n : Prop} (h : n) (s : Bx n → g := by (intro h; refine Yv ?_; refine MB ?_; exact h.v)) : g := s ⟨h⟩
theorem SN {g n : Prop} (h : n) (s : Bx n → g := by (intro h; refine Cl ?_; refine DI ?_; exact h.v)) : g := s ⟨h⟩
theorem SB {g n : Prop} (h : n) (s : Bx n → g := by (intro h; refine KN ?_; refine AY ?_; exact h.v)) : g := s ⟨h⟩
theorem cn {g n : Prop} (h : n) (s : Bx n → g := by (intro h; refine M6 ?_; refine AY ?_; exact h.v)) : g := s ⟨h⟩
theorem SQ {g n : Prop} (h : n) (s : Bx n → g := by (intro h; refine Sn ?_; refine NQ ?_; exact h.v)) : g := s ⟨h⟩
theorem SR {g n : Prop} (h : n) (s : Bx n → g := by (intro h; refine Es ?_; refine Le ?_; exact h.v)) : g := s ⟨h⟩
theorem ii {g n : Prop} (h : n) (s : Bx n → g := by (intro h; refine UM ?_; refine fq ?_; exact h.v)) : g := s ⟨h⟩
theorem gY {g n : Prop} (h : n) (s : Bx n → g := by (intro h; refine ii ?_; refine dW ?_; exact h.v)) : g := s ⟨h⟩
theorem Sq {g n : Prop} (h : n) (s : Bx n → g := by (intro h; refine gY ?_; refine dL ?_; exact h.v)) : g := s ⟨h⟩
theorem Yb {g n : Prop} (h : n) (s : Bx n → g := by (intro h; refine Z5 ?_; refine Ym rfl rfl rfl ?_; exact h.v)) : g := s ⟨h⟩
theorem VZ {g n : Prop} (h : n) (s : Bx n → g := by (intro h; refine Jp ?_; refine Mc ?_; exact h.v)) : g := s ⟨h⟩
theorem Wl {g n : Prop} (h : n) (s : Bx n → g := by (intro h; refine Ix ?_; refine AF ?_; exact h.v)) : g := s ⟨h⟩
theorem eA {g n : Prop} (h : n) (s : Bx n → g := by (intro h; refine AF ?_; refine bd ?_; exact h.v)) : g := s ⟨h⟩
theorem TG {g n : Prop} (h : n) (s : Bx n → g := by (intro h; refine Sn ?_; refine Ec ?_; exact h.v)) : g := s ⟨h⟩
theorem WG {g n : Prop} (h : n) (s : Bx n → g := by (intro h; refine GU ?_; refine Md ?_; exact h.v)) : g := s ⟨h⟩
theorem TI {g n : Prop} (h : n) (s : Bx n → g := by (intro h; refine Ww ?_; refine CM ?_; exact h.v)) : g := s ⟨h⟩
theorem TH {g n : Prop} (h : n) (s : Bx n → g := by (intro h; refine RH ?_; refine Fx ?_; exact h.v)) : g := s ⟨h⟩
theorem T9 {g n : Prop} (h : n) (s : Bx n → g := by (intro h; refine HI ?_; refine Ec ?_; exact h.v)) : g := s ⟨h⟩
theorem TJ {g n : Prop} (h : n) (s : Bx n → g := by (intro h; refine JK ?_; refine Mv ?_; exact h.v)) : g := s ⟨h⟩
theorem T7 {g n : Prop} (h : n) (s : Bx n → g := by (intro h; refine Fz ?_; refine Mv ?_; exact h.v)) : g := s ⟨h⟩
theorem Up {g n : Prop} (h : n) (s : Bx n → g := by (intro h; refine LK ?_; refine Hv ?_; exact h.v)) : g := s ⟨h⟩
theorem UP {g n : Prop} (h : n) (s : Bx n → g := by (intro h; refine IM ?_; refine Ep ?_; exact h.v)) : g := s ⟨h⟩
theorem TF {g n : Prop} (h : n) (s : Bx n → g := by (intro h; refine AY ?_; refine NU ?_; exact h.v)) : g := s ⟨h⟩
theorem TL {g n : Prop} (h : n) (s : Bx n → g := by (intro h; refine dJ ?_; refine Hv ?_; exact h.v)) : g := s ⟨h⟩
theorem Tp {g n : Prop} (h : n) (s : Bx n → g := by (intro h; refine Po ?_; refine K9 ?_; exact h.v)) : g := s ⟨h⟩
theorem TY {g n : Prop} (h : n) (s : Bx n → g := by (intro h; refine Ph ?_; refine eK ?_; exact h.v)) : g := s ⟨h⟩
theorem TA {g n : Prop} (h : n) (s : Bx n → g := by (intro h; refine AF ?_; refine Uw ?_; exact h.v)) : g := s ⟨h⟩
theorem Tm {g n : Prop} (h : n) (s : Bx n → g := by (intro h; refine Sk ?_; refine AY ?_; exact h.v)) : g := s ⟨h⟩
theorem T8 {g n : Prop} (h : n) (s : Bx n → g := by (intro h; refine bf ?_; refine WY ?_; exact h.v)) : g := s ⟨h⟩
theorem Uu {g n : Prop} (h : n) (s : Bx n → g := by (intro h; refine AF ?_; refine RA ?_; exact h.v)) : g := s ⟨h⟩
theorem UA {g n : Prop} (h : n) (s : Bx n → g := by (intro h; refine Sk ?_; refine CM ?_; exact h.v)) : g := s ⟨h⟩
theorem cJ {g n : Prop} (h : n) (s : Bx n → g := by (intro h; refine Ix ?_; refine Lb rfl (Yn VF bi) ?_; exact h.v)) : g := s ⟨h⟩
theorem V5 {g n : Prop} (h : n) (s : Bx n → g := by (intro h; refine IY ?_; refine I1 ?_; exact h.v)) : g := s ⟨h⟩
theorem V8 {g n : Prop} (h : n) (s : Bx n → g := by (intro h; refine Ww ?_; refine Hv ?_; exact h.v)) : g := s ⟨h⟩
theorem WD {g n : Prop} (h : n) (s : Bx n → g := by (intro h; refine Cl ?_; refine FB ?_; exact h.v)) : g := s ⟨h⟩
theorem V9 {g n : Prop} (h : n) (s : Bx n → g := by (intro h; refine cS ?_; refine Qm ?_; exact h.v)) : g := s ⟨h⟩
theorem Wr {g n : Prop} (h : n) (s : Bx n → g := by (intro h; refine RH ?_; refine Es ?_; exact h.v)) : g := s ⟨h⟩
theorem V7 {g n : Prop} (h : n) (s : Bx n → g := by (intro h; refine KO ?_; refine W0 ?_; exact h.v)) : g := s ⟨h⟩
theorem VQ {g n : Prop} (h : n) (s : Bx n → g := by (intro h; refine Cl ?_; refine Ki ?_; exact h.v)) : g := s ⟨h⟩
theorem XB {g n : Prop} (h : n) (s : Bx n → g := by (intro h; refine Wp ?_; refine Qh ?_; exact h.v)) : g := s ⟨h⟩
theorem Xr {g n : Prop} (h : n) (s : Bx n → g := by (intro h; refine D3 ?_; refine cn ?_; exact h.v)) : g := s ⟨h⟩
theorem V4 {g n : Prop} (h : n) (s : Bx n → g := by (intro h; refine IY ?_; refine FA ?_; exact h.v)) : g := s ⟨h⟩
theorem Xj {g n : Prop} (h : n) (s : Bx n → g := by (intro h; refine Qj ?_; refine IM ?_; exact h.v)) : g := s ⟨h⟩
theorem WU {g n : Prop} (h : n) (s : Bx n → g := by (intro h; refine Ln ?_; refine MB ?_; exact h.v)) : g := s ⟨h⟩
theorem WB {g n : Prop} (h : n) (s : Bx n → g := by (intro h; refine Hy ?_; refine fq ?_; exact h.v)) : g := s ⟨h⟩
theorem Xl {g n : Prop} (h : n) (s : Bx n → g := by (intro h; refine R9 ?_; refine ik ?_; exact h.v)) : g := s ⟨h⟩
end Go.Proofs.YtilhbalhkljanaaGreatDoor
