/- Short words for the walks. No condition. -/
import Derived.Test.YtilhbalhkljanaaGreatDoorWs
import Derived.Test.YtilhbalhkljanaaGreatDoorTy
import Derived.Test.YtilhbalhkljanaaGreatDoorEng34
import Derived.Test.YtilhbalhkljanaaGreatDoorPf
set_option linter.unusedVariables false
namespace Go.Proofs.YtilhbalhkljanaaGreatDoor
structure Bx (n : Prop) : Prop where
 v : n
theorem ws {p : Prop} (h : p := by (repeat (first | with_reducible exact WS.refl _ | refine WS.add ?_ rfl | exact WS.refl _))) : p := h
theorem tw {p : Prop} (h : p := by (refine ⟨_, hF, .hd (.refl _) ?_⟩; repeat (first | with_reducible exact WS.refl _ | refine WS.add ?_ rfl | exact WS.refl _))) : p := h
theorem th {p : Prop} (h : p := by (first | refine .hd (ef (by assumption)) ?_ | refine .hd (eW (by assumption)) ?_ | refine .hd (cq (by assumption)) ?_ | refine .hd (cI (by assumption)) ?_); (repeat (first | with_reducible exact WS.refl _ | refine WS.add ?_ rfl | exact WS.refl _))) : p := h
theorem rt {p : Prop} (h : p := by (repeat (first | with_reducible refine Exit.sr ?_ | with_reducible refine Exit.br ?_ | with_reducible refine Exit.jr ?_)); refine Fs rfl (by repeat' first | exact .nil | apply RV.tmp (v := .int _ _) rfl | apply RV.tmp (v := .bool _) rfl | apply RV.tmp (v := .str _) rfl | apply RV.tmp (v := .sl _ _ _) rfl | apply RV.tmp (v := .agg _) rfl | apply RV.tmp (v := ifD _) rfl | apply RV.tmp (v := As _ _ _) rfl) ?_; first | exact ⟨_, _, .refl _, ok.wh, _, Aj hF, rfl, rfl⟩ | exact ⟨_, _, .refl _, WH.refl _, _, Aj hF, rfl⟩ | (refine ⟨_, _, ?_, ok.wh, _, Aj hF, rfl, rfl⟩; repeat' first | exact .refl _ | exact .zero _ _ _ | exact .nil _ | exact .nil | refine .tupC ?_ | refine .aggC ?_ | refine Wd.toE (.aggC ?_) (Ae _) | refine .cons ?_ ?_) | (refine ⟨_, _, ?_, WH.refl _, _, Aj hF, rfl⟩; repeat' first | exact .refl _ | exact .zero _ _ _ | exact .nil _ | exact .nil | refine .tupC ?_ | refine .aggC ?_ | refine Wd.toE (.aggC ?_) (Ae _) | refine .cons ?_ ?_)) : p := h
theorem oy {h : Heap} {O O' : List (Nat × AObj)} (ok : OK h O) (w : WO O O' := by (repeat' first | exact .refl _ | refine .keep ?_ | refine .drop ?_ | exact .nil)) : OK h O' := (w.spec ok).1
theorem hy {h : Heap} {O O' : List (Nat × AObj)} (ok : OK h O) (w : WO O O' := by (repeat' first | exact .refl _ | refine .keep ?_ | refine .drop ?_ | exact .nil)) : WH (Hp h O) (Hp h O') := (w.spec ok).2.2
theorem wy {n : Nat} {l l' : List (Nat × D)} {h : Heap} {O O' : List (Nat × AObj)} (ok : OK h O) (hl : WL n l l' := by (repeat' first | exact .refl _ | exact .zero _ _ _ | exact .nil _ | exact .nil | refine .tupC ?_ | refine .aggC ?_ | refine Wd.toE (.aggC ?_) (Ae _) | refine .cons ?_ ?_)) (w : WO O O' := by (repeat' first | exact .refl _ | refine .keep ?_ | refine .drop ?_ | exact .nil)) : WS ⟨Ak n l, Hp h O⟩ ⟨Ak n l', Hp h O'⟩ := WS.mk' hl ok w
theorem okT {ρ β : Type} {P : Program} {g : FuncId} {ds : List D} {H : Heap} {X : Option ρ} {Q : ρ → D → Heap → Prop} {f : ρ → Option β} {G : β → Prop} {R : D → Heap → Prop} (w : ∀ G : ρ → Prop, Ap X G → CallsA P g ds H fun d h' => ∃ r, G r ∧ Q r d h') (hF : Ap (X.bind f) G) (hk : ∀ r d h', X = some r → Q r d h' → Ap (f r) G → R d h') : CallsA P g ds H R := by
 obtain ⟨r0, hr, hF⟩ := BT hF
 refine (w (fun r => r = r0) ⟨r0, hr, rfl⟩).mono ?_
 rintro d h' ⟨r, rfl, hq⟩
 exact hk _ _ _ hr hq hF
theorem xr {g n : Prop} (h : n) (s : Bx n → g := by (intro h; (repeat (first | with_reducible refine Exit.sr ?_ | with_reducible refine Exit.br ?_ | with_reducible refine Exit.jr ?_)); exact h.v)) : g := s ⟨h⟩
theorem rr {g n : Prop} (h : n) (s : Bx n → g := by (intro h; (repeat (first | with_reducible refine Exit.sr ?_ | with_reducible refine Exit.br ?_ | with_reducible refine Exit.jr ?_)); refine Fs rfl (by repeat' first | exact .nil | apply RV.tmp (v := .int _ _) rfl | apply RV.tmp (v := .bool _) rfl | apply RV.tmp (v := .str _) rfl | apply RV.tmp (v := .sl _ _ _) rfl | apply RV.tmp (v := .agg _) rfl | apply RV.tmp (v := ifD _) rfl | apply RV.tmp (v := As _ _ _) rfl) ?_; exact h.v)) : g := s ⟨h⟩
theorem cl {P : Program} {md : Nat → Nat} {w : Bool} {ops : Array Oper} {os : List Oper} {k : St → Prop} {n : Nat} {l : List (Nat × D)} {h : Heap} {d : Nat} {ty : TypeId} {pos : String} {af : Array Edge} {g : FuncId} {args : Array Operand} {ts : Array TypeId} {ds : List D} (hc : CallsA P g ds h fun v h' => Aw P md w ops os ⟨Ak n ((d, v) :: l), h'⟩ k) (hw : WdC (args.toList.map (opL n l)) ds := by (repeat' first | exact .refl _ | exact .zero _ _ _ | exact .nil _ | exact .nil | refine .tupC ?_ | refine .aggC ?_ | refine Wd.toE (.aggC ?_) (Ae _) | refine .cons ?_ ?_)) : Aw P md w ops (⟨some d, .call ⟨.value (.func g), args, ts⟩, ty, pos, af, none⟩ :: os) ⟨Ak n l, h⟩ k := IL hc hw
theorem AV {g n : Prop} (h : n) (s : Bx n → g := by (intro h; refine IZ ?_; exact h.v)) : g := s ⟨h⟩
theorem DS {g n : Prop} (h : n) (s : Bx n → g := by (intro h; refine H7 ?_; exact h.v)) : g := s ⟨h⟩
theorem IK {g n : Prop} (h : n) (s : Bx n → g := by (intro h; refine CF (mdl []) ?_; exact h.v)) : g := s ⟨h⟩
theorem dq {g n : Prop} (h : n) (s : Bx n → g := by (intro h; refine aE ?_; exact h.v)) : g := s ⟨h⟩
theorem eN {g n : Prop} (h : n) (s : Bx n → g := by (intro h; refine fb rfl rfl (by assumption) ?_; exact h.v)) : g := s ⟨h⟩
theorem eg {g n : Prop} (h : n) (s : Bx n → g := by (intro h; refine eD ?_; exact h.v)) : g := s ⟨h⟩
theorem Eb {g n : Prop} (h : n) (s : Bx n → g := by (intro h; refine S_m (v := .int _ _) rfl ?_; exact h.v)) : g := s ⟨h⟩
theorem e7 {g n : Prop} (h : n) (s : Bx n → g := by (intro h; refine dQ rfl rfl (by assumption) ?_; exact h.v)) : g := s ⟨h⟩
theorem PY {g n : Prop} (h : n) (s : Bx n → g := by (intro h; refine S_a (v := .int _ _) rfl ?_; exact h.v)) : g := s ⟨h⟩
theorem MP {g n : Prop} (h : n) (s : Bx n → g := by (intro h; refine N9 ?_; exact h.v)) : g := s ⟨h⟩
theorem Co {g n : Prop} (h : n) (s : Bx n → g := by (intro h; refine MN ?_; exact h.v)) : g := s ⟨h⟩
theorem HS {g n : Prop} (h : n) (s : Bx n → g := by (intro h; refine S_m (v := .ptr _ _) rfl ?_; exact h.v)) : g := s ⟨h⟩
theorem eQ {g n : Prop} (h : n) (s : Bx n → g := by (intro h; refine S_a (v := .bool _) rfl ?_; exact h.v)) : g := s ⟨h⟩
theorem CZ {g n : Prop} (h : n) (s : Bx n → g := by (intro h; refine S_m (v := .bool _) rfl ?_; exact h.v)) : g := s ⟨h⟩
theorem GH {g n : Prop} (h : n) (s : Bx n → g := by (intro h; refine S9 (v := .ptr _ _) rfl rfl ?_; exact h.v)) : g := s ⟨h⟩
theorem Ot {g n : Prop} (h : n) (s : Bx n → g := by (intro h; refine cX rfl rfl ?_; exact h.v)) : g := s ⟨h⟩
theorem eE {g n : Prop} (h : n) (s : Bx n → g := by (intro h; refine Zd (v := .bool _) rfl (by assumption) rfl ?_; exact h.v)) : g := s ⟨h⟩
theorem fc {g n : Prop} (h : n) (s : Bx n → g := by (intro h; refine YD (v := .bool _) rfl (by assumption) rfl ?_; exact h.v)) : g := s ⟨h⟩
theorem HQ {g n : Prop} (h : n) (s : Bx n → g := by (intro h; refine S_m (v := .str _) rfl ?_; exact h.v)) : g := s ⟨h⟩
theorem Fe {g n : Prop} (h : n) (s : Bx n → g := by (intro h; refine Xn ?_; exact h.v)) : g := s ⟨h⟩
theorem Kr {g n : Prop} (h : n) (s : Bx n → g := by (intro h; refine S_m (v := .sl _ _ _) rfl ?_; exact h.v)) : g := s ⟨h⟩
theorem HW {g n : Prop} (h : n) (s : Bx n → g := by (intro h; refine Ef rfl rfl (Wb ..) ?_; exact h.v)) : g := s ⟨h⟩
theorem S3 {g n : Prop} (h : n) (s : Bx n → g := by (intro h; refine Ef rfl rfl (Xq ..) ?_; exact h.v)) : g := s ⟨h⟩
theorem Ld {g n : Prop} (h : n) (s : Bx n → g := by (intro h; refine S_m (v := As _ _ _) rfl ?_; exact h.v)) : g := s ⟨h⟩
theorem UN {g n : Prop} (h : n) (s : Bx n → g := by (intro h; refine Ef rfl rfl (Wj ..) ?_; exact h.v)) : g := s ⟨h⟩
theorem eM {g n : Prop} (h : n) (s : Bx n → g := by (intro h; refine Yu ?_; exact h.v)) : g := s ⟨h⟩
theorem ej {g n : Prop} (h : n) (s : Bx n → g := by (intro h; simp only [Exit.sel, Exit.blk, Exit.jmp, if_true, if_false, reduceIte, Nat.reduceEqDiff, Nat.succ_ne_zero, Nat.zero_ne_one, Nat.one_ne_zero]; exact h.v)) : g := s ⟨h⟩
theorem Vx {g n : Prop} (h : n) (s : Bx n → g := by (intro h; refine Ef rfl rfl (X6 ..) ?_; exact h.v)) : g := s ⟨h⟩
theorem dO {g n : Prop} (h : n) (s : Bx n → g := by (intro h; refine DA rfl SB Bb ?_; exact h.v)) : g := s ⟨h⟩
theorem eP {g n : Prop} (h : n) (s : Bx n → g := by (intro h; refine S_m (v := .tup _) rfl ?_; exact h.v)) : g := s ⟨h⟩
theorem Ir {g n : Prop} (h : n) (s : Bx n → g := by (intro h; refine S_a (v := .str _) rfl ?_; exact h.v)) : g := s ⟨h⟩
theorem Lr {g n : Prop} (h : n) (s : Bx n → g := by (intro h; refine Ef rfl rfl aq ?_; exact h.v)) : g := s ⟨h⟩
theorem ff {g n : Prop} (h : n) (s : Bx n → g := by (intro h; refine b8 rfl rfl ?_; exact h.v)) : g := s ⟨h⟩
theorem Hc {g n : Prop} (h : n) (s : Bx n → g := by (intro h; refine Ef rfl rfl (SK ..) ?_; exact h.v)) : g := s ⟨h⟩
theorem Zb {g n : Prop} (h : n) (s : Bx n → g := by (intro h; refine Ds (j := 0) ok rfl rfl rfl (by assumption) (B6 (v := .int _ _) HC Bb rfl) ?_; exact h.v)) : g := s ⟨h⟩
theorem Qj {g n : Prop} (h : n) (s : Bx n → g := by (intro h; refine Ef rfl rfl (V5 ..) ?_; exact h.v)) : g := s ⟨h⟩
theorem P1 {g n : Prop} (h : n) (s : Bx n → g := by (intro h; refine eR rfl (X7 _) ?_; exact h.v)) : g := s ⟨h⟩
theorem JV {g n : Prop} (h : n) (s : Bx n → g := by (intro h; refine GF rfl BQ ?_; exact h.v)) : g := s ⟨h⟩
theorem Wf {g n : Prop} (h : n) (s : Bx n → g := by (intro h; refine DA rfl EG BR ?_; exact h.v)) : g := s ⟨h⟩
theorem Hx {g n : Prop} (h : n) (s : Bx n → g := by (intro h; refine Cs rfl (B6 Dg AO rfl) ?_; exact h.v)) : g := s ⟨h⟩
theorem SF {g n : Prop} (h : n) (s : Bx n → g := by (intro h; refine S_a (v := .sl _ _ _) rfl ?_; exact h.v)) : g := s ⟨h⟩
theorem PE {g n : Prop} (h : n) (s : Bx n → g := by (intro h; refine aM rfl Di ?_; exact h.v)) : g := s ⟨h⟩
theorem Mk {g n : Prop} (h : n) (s : Bx n → g := by (intro h; refine Ef rfl rfl (Xb ..) ?_; exact h.v)) : g := s ⟨h⟩
theorem NH {g n : Prop} (h : n) (s : Bx n → g := by (intro h; refine S_m (v := .fn (.func _) _ _) rfl ?_; exact h.v)) : g := s ⟨h⟩
theorem Rz {g n : Prop} (h : n) (s : Bx n → g := by (intro h; refine Kf rfl (dC BQ JF Di) ?_; exact h.v)) : g := s ⟨h⟩
theorem Yz {g n : Prop} (h : n) (s : Bx n → g := by (intro h; refine Cs rfl (B6 Zt C0 rfl) ?_; exact h.v)) : g := s ⟨h⟩
theorem cm {g n : Prop} (h : n) (s : Bx n → g := by (intro h; refine DA rfl Sd Bb ?_; exact h.v)) : g := s ⟨h⟩
theorem Vg {g n : Prop} (h : n) (s : Bx n → g := by (intro h; refine Ef rfl rfl (X9 ..) ?_; exact h.v)) : g := s ⟨h⟩
theorem Zy {g n : Prop} (h : n) (s : Bx n → g := by (intro h; refine DA rfl R5 N6 ?_; exact h.v)) : g := s ⟨h⟩
theorem QK {g n : Prop} (h : n) (s : Bx n → g := by (intro h; refine Ef rfl rfl bk ?_; exact h.v)) : g := s ⟨h⟩
theorem QX {g n : Prop} (h : n) (s : Bx n → g := by (intro h; refine DA rfl KA FT ?_; exact h.v)) : g := s ⟨h⟩
theorem Xm {g n : Prop} (h : n) (s : Bx n → g := by (intro h; refine S_a (v := As _ _ _) rfl ?_; exact h.v)) : g := s ⟨h⟩
theorem aO {g n : Prop} (h : n) (s : Bx n → g := by (intro h; refine Ds (j := 0) ok rfl rfl rfl (by assumption) (B6 (v := .sl _ _ _) QY N6 rfl) ?_; exact h.v)) : g := s ⟨h⟩
theorem N8 {g n : Prop} (h : n) (s : Bx n → g := by (intro h; refine GF rfl CE ?_; exact h.v)) : g := s ⟨h⟩
theorem YR {g n : Prop} (h : n) (s : Bx n → g := by (intro h; refine DA rfl Sm AK ?_; exact h.v)) : g := s ⟨h⟩
theorem Rh {g n : Prop} (h : n) (s : Bx n → g := by (intro h; refine aX rfl rfl BQ Di JF ?_; exact h.v)) : g := s ⟨h⟩
theorem dS {g n : Prop} (h : n) (s : Bx n → g := by (intro h; refine DA rfl Kj Bb ?_; exact h.v)) : g := s ⟨h⟩
theorem QU {g n : Prop} (h : n) (s : Bx n → g := by (intro h; refine Ds (j := 0) ok rfl rfl rfl (by assumption) (B6 (v := .str _) Dg AO rfl) ?_; exact h.v)) : g := s ⟨h⟩
theorem eA {g n : Prop} (h : n) (s : Bx n → g := by (intro h; refine Ds (j := 2) ok rfl rfl rfl (by assumption) (B6 (v := .sl _ _ _) Dq BR rfl) ?_; exact h.v)) : g := s ⟨h⟩
theorem ep {g n : Prop} (h : n) (s : Bx n → g := by (intro h; refine Ds (j := 0) ok rfl rfl rfl (by assumption) (B6 (v := .msl _ _ _ _) Lj FT rfl) ?_; exact h.v)) : g := s ⟨h⟩
theorem Vf {g n : Prop} (h : n) (s : Bx n → g := by (intro h; refine C9 rfl KC AO rfl ?_; exact h.v)) : g := s ⟨h⟩
theorem Us {g n : Prop} (h : n) (s : Bx n → g := by (intro h; refine DA rfl SG KM ?_; exact h.v)) : g := s ⟨h⟩
theorem Yk {g n : Prop} (h : n) (s : Bx n → g := by (intro h; refine DA rfl Ko F8 ?_; exact h.v)) : g := s ⟨h⟩
theorem V6 {g n : Prop} (h : n) (s : Bx n → g := by (intro h; refine DA rfl JA AO ?_; exact h.v)) : g := s ⟨h⟩
theorem X0 {g n : Prop} (h : n) (s : Bx n → g := by (intro h; refine DA rfl Qy AO ?_; exact h.v)) : g := s ⟨h⟩
theorem W3 {g n : Prop} (h : n) (s : Bx n → g := by (intro h; refine S_a (v := .ptr _ _) rfl ?_; exact h.v)) : g := s ⟨h⟩
theorem Xj {g n : Prop} (h : n) (s : Bx n → g := by (intro h; refine Ds (j := 2) ok rfl rfl rfl (by assumption) (B6 (v := .msl _ _ _ _) Lj FT rfl) ?_; exact h.v)) : g := s ⟨h⟩
theorem YW {g n : Prop} (h : n) (s : Bx n → g := by (intro h; refine Ds (j := 1) ok rfl rfl rfl (by assumption) (B6 (v := .int _ _) HC Bb rfl) ?_; exact h.v)) : g := s ⟨h⟩
theorem Y5 {g n : Prop} (h : n) (s : Bx n → g := by (intro h; refine Cs rfl (B6 HC Bb rfl) ?_; exact h.v)) : g := s ⟨h⟩
theorem Yv {g n : Prop} (h : n) (s : Bx n → g := by (intro h; refine Kf rfl (WG Xx Qa) ?_; exact h.v)) : g := s ⟨h⟩
theorem ZE {g n : Prop} (h : n) (s : Bx n → g := by (intro h; refine Kf rfl (WG T7 Ws) ?_; exact h.v)) : g := s ⟨h⟩
theorem Y0 {g n : Prop} (h : n) (s : Bx n → g := by (intro h; refine C9 rfl Jj Cx rfl ?_; exact h.v)) : g := s ⟨h⟩
theorem Zi {g n : Prop} (h : n) (s : Bx n → g := by (intro h; refine C9 rfl IN AO rfl ?_; exact h.v)) : g := s ⟨h⟩
theorem Zp {g n : Prop} (h : n) (s : Bx n → g := by (intro h; refine Ds (j := 0) ok rfl rfl rfl (by assumption) (B6 (v := .sl _ _ _) Dq BR rfl) ?_; exact h.v)) : g := s ⟨h⟩
theorem aY {g n : Prop} (h : n) (s : Bx n → g := by (intro h; refine Ds (j := 2) ok rfl rfl rfl (by assumption) (B6 (v := .str _) Dg AO rfl) ?_; exact h.v)) : g := s ⟨h⟩
theorem bC {g n : Prop} (h : n) (s : Bx n → g := by (intro h; refine Ds (j := 1) ok rfl rfl rfl (by assumption) (B6 (v := .str _) Dg AO rfl) ?_; exact h.v)) : g := s ⟨h⟩
theorem aa {g n : Prop} (h : n) (s : Bx n → g := by (intro h; refine Ds (j := 2) ok rfl rfl rfl (by assumption) (B6 (v := .int _ _) HC Bb rfl) ?_; exact h.v)) : g := s ⟨h⟩
theorem dU {g n : Prop} (h : n) (s : Bx n → g := by (intro h; refine Ds (j := 2) ok rfl rfl rfl (by assumption) (B6 (v := As _ _ _) KY F8 rfl) ?_; exact h.v)) : g := s ⟨h⟩
theorem dP {g n : Prop} (h : n) (s : Bx n → g := by (intro h; refine Ds (j := 0) ok rfl rfl rfl (by assumption) (B6 (v := .bool _) TE KM rfl) ?_; exact h.v)) : g := s ⟨h⟩
theorem dK {g n : Prop} (h : n) (s : Bx n → g := by (intro h; refine Ds (j := 2) ok rfl rfl rfl (by assumption) (B6 (v := .bool _) TE KM rfl) ?_; exact h.v)) : g := s ⟨h⟩
theorem cB {g n : Prop} (h : n) (s : Bx n → g := by (intro h; refine Ds (j := 4) ok rfl rfl rfl (by assumption) (B6 (v := .sl _ _ _) Dq BR rfl) ?_; exact h.v)) : g := s ⟨h⟩
theorem Bz {g n : Prop} (h : n) (s : Bx n → g := by (intro h; refine DS ?_; refine IK ?_; exact h.v)) : g := s ⟨h⟩
theorem Hs {g n : Prop} (h : n) (s : Bx n → g := by (intro h; refine eN ?_; refine eg ?_; exact h.v)) : g := s ⟨h⟩
theorem Sf {g n : Prop} (h : n) (s : Bx n → g := by (intro h; refine e7 ?_; refine dq ?_; exact h.v)) : g := s ⟨h⟩
theorem A2 {g n : Prop} (h : n) (s : Bx n → g := by (intro h; refine AV ?_; refine Hs ?_; exact h.v)) : g := s ⟨h⟩
theorem EV {g n : Prop} (h : n) (s : Bx n → g := by (intro h; refine PY ?_; refine AV ?_; exact h.v)) : g := s ⟨h⟩
theorem NJ {g n : Prop} (h : n) (s : Bx n → g := by (intro h; refine Sf ?_; refine Sf ?_; exact h.v)) : g := s ⟨h⟩
theorem Eh {g n : Prop} (h : n) (s : Bx n → g := by (intro h; refine Bz ?_; refine Eb ?_; exact h.v)) : g := s ⟨h⟩
theorem EZ {g n : Prop} (h : n) (s : Bx n → g := by (intro h; refine EV ?_; refine MP ?_; exact h.v)) : g := s ⟨h⟩
theorem D7 {g n : Prop} (h : n) (s : Bx n → g := by (intro h; refine eQ ?_; refine AV ?_; exact h.v)) : g := s ⟨h⟩
theorem Jq {g n : Prop} (h : n) (s : Bx n → g := by (intro h; refine eE ?_; refine AV ?_; exact h.v)) : g := s ⟨h⟩
theorem LP {g n : Prop} (h : n) (s : Bx n → g := by (intro h; refine fc ?_; refine AV ?_; exact h.v)) : g := s ⟨h⟩
theorem FW {g n : Prop} (h : n) (s : Bx n → g := by (intro h; refine Bz ?_; refine HS ?_; exact h.v)) : g := s ⟨h⟩
theorem FA {g n : Prop} (h : n) (s : Bx n → g := by (intro h; refine NJ ?_; refine NJ ?_; exact h.v)) : g := s ⟨h⟩
theorem Iq {g n : Prop} (h : n) (s : Bx n → g := by (intro h; refine DS ?_; refine Eh ?_; exact h.v)) : g := s ⟨h⟩
theorem Um {g n : Prop} (h : n) (s : Bx n → g := by (intro h; refine Eb ?_; refine A2 ?_; exact h.v)) : g := s ⟨h⟩
theorem E1 {g n : Prop} (h : n) (s : Bx n → g := by (intro h; refine Bz ?_; refine HQ ?_; exact h.v)) : g := s ⟨h⟩
theorem Hh {g n : Prop} (h : n) (s : Bx n → g := by (intro h; refine AV ?_; refine Jq ?_; exact h.v)) : g := s ⟨h⟩
theorem GM {g n : Prop} (h : n) (s : Bx n → g := by (intro h; refine D7 ?_; refine MP ?_; exact h.v)) : g := s ⟨h⟩
theorem Eg {g n : Prop} (h : n) (s : Bx n → g := by (intro h; refine Bz ?_; refine EZ ?_; exact h.v)) : g := s ⟨h⟩
theorem DT {g n : Prop} (h : n) (s : Bx n → g := by (intro h; refine eM ?_; refine ej ?_; exact h.v)) : g := s ⟨h⟩
theorem XO {g n : Prop} (h : n) (s : Bx n → g := by (intro h; refine Ot ?_; refine Ot ?_; exact h.v)) : g := s ⟨h⟩
theorem KH {g n : Prop} (h : n) (s : Bx n → g := by (intro h; refine GH ?_; refine dO ?_; exact h.v)) : g := s ⟨h⟩
theorem GQ {g n : Prop} (h : n) (s : Bx n → g := by (intro h; refine AV ?_; refine DS ?_; exact h.v)) : g := s ⟨h⟩
theorem GI {g n : Prop} (h : n) (s : Bx n → g := by (intro h; refine Co ?_; refine DS ?_; exact h.v)) : g := s ⟨h⟩
theorem GL {g n : Prop} (h : n) (s : Bx n → g := by (intro h; refine eP ?_; refine XO ?_; exact h.v)) : g := s ⟨h⟩
theorem Ja {g n : Prop} (h : n) (s : Bx n → g := by (intro h; refine Hs ?_; refine Um ?_; exact h.v)) : g := s ⟨h⟩
theorem Hy {g n : Prop} (h : n) (s : Bx n → g := by (intro h; refine AV ?_; refine LP ?_; exact h.v)) : g := s ⟨h⟩
theorem Gm {g n : Prop} (h : n) (s : Bx n → g := by (intro h; refine Bz ?_; refine Kr ?_; exact h.v)) : g := s ⟨h⟩
theorem Gb {g n : Prop} (h : n) (s : Bx n → g := by (intro h; refine Ld ?_; refine Eb ?_; exact h.v)) : g := s ⟨h⟩
theorem bi {g n : Prop} (h : n) (s : Bx n → g := by (intro h; refine Eb ?_; refine AV ?_; exact h.v)) : g := s ⟨h⟩
theorem Zo {g n : Prop} (h : n) (s : Bx n → g := by (intro h; refine ff ?_; refine dq ?_; exact h.v)) : g := s ⟨h⟩
theorem H3 {g n : Prop} (h : n) (s : Bx n → g := by (intro h; refine PY ?_; refine EZ ?_; exact h.v)) : g := s ⟨h⟩
theorem If {g n : Prop} (h : n) (s : Bx n → g := by (intro h; refine Eb ?_; refine HW ?_; exact h.v)) : g := s ⟨h⟩
theorem HX {g n : Prop} (h : n) (s : Bx n → g := by (intro h; refine PY ?_; refine EV ?_; exact h.v)) : g := s ⟨h⟩
theorem Gd {g n : Prop} (h : n) (s : Bx n → g := by (intro h; refine Bz ?_; refine EV ?_; exact h.v)) : g := s ⟨h⟩
theorem HP {g n : Prop} (h : n) (s : Bx n → g := by (intro h; refine Eh ?_; refine EZ ?_; exact h.v)) : g := s ⟨h⟩
theorem Qz {g n : Prop} (h : n) (s : Bx n → g := by (intro h; refine NJ ?_; refine Sf ?_; exact h.v)) : g := s ⟨h⟩
theorem Mq {g n : Prop} (h : n) (s : Bx n → g := by (intro h; refine Vx ?_; refine AV ?_; exact h.v)) : g := s ⟨h⟩
theorem OB {g n : Prop} (h : n) (s : Bx n → g := by (intro h; refine KH ?_; refine Zb ?_; exact h.v)) : g := s ⟨h⟩
theorem SS {g n : Prop} (h : n) (s : Bx n → g := by (intro h; refine HQ ?_; refine A2 ?_; exact h.v)) : g := s ⟨h⟩
theorem Hz {g n : Prop} (h : n) (s : Bx n → g := by (intro h; refine Eh ?_; refine Eb ?_; exact h.v)) : g := s ⟨h⟩
theorem Kx {g n : Prop} (h : n) (s : Bx n → g := by (intro h; refine UN ?_; refine AV ?_; exact h.v)) : g := s ⟨h⟩
theorem Hw {g n : Prop} (h : n) (s : Bx n → g := by (intro h; refine AV ?_; refine FW ?_; exact h.v)) : g := s ⟨h⟩
theorem HK {g n : Prop} (h : n) (s : Bx n → g := by (intro h; refine Bz ?_; refine GM ?_; exact h.v)) : g := s ⟨h⟩
theorem H0 {g n : Prop} (h : n) (s : Bx n → g := by (intro h; refine NJ ?_; refine LP ?_; exact h.v)) : g := s ⟨h⟩
theorem Ib {g n : Prop} (h : n) (s : Bx n → g := by (intro h; refine S3 ?_; refine CZ ?_; exact h.v)) : g := s ⟨h⟩
theorem P8 {g n : Prop} (h : n) (s : Bx n → g := by (intro h; refine IK ?_; refine Eb ?_; exact h.v)) : g := s ⟨h⟩
theorem Lw {g n : Prop} (h : n) (s : Bx n → g := by (intro h; refine HS ?_; refine GH ?_; exact h.v)) : g := s ⟨h⟩
theorem Km {g n : Prop} (h : n) (s : Bx n → g := by (intro h; refine EV ?_; refine Iq ?_; exact h.v)) : g := s ⟨h⟩
theorem NI {g n : Prop} (h : n) (s : Bx n → g := by (intro h; refine NJ ?_; refine Jq ?_; exact h.v)) : g := s ⟨h⟩
theorem dH {g n : Prop} (h : n) (s : Bx n → g := by (intro h; refine HS ?_; refine A2 ?_; exact h.v)) : g := s ⟨h⟩
theorem VA {g n : Prop} (h : n) (s : Bx n → g := by (intro h; refine Kr ?_; refine A2 ?_; exact h.v)) : g := s ⟨h⟩
theorem Jb {g n : Prop} (h : n) (s : Bx n → g := by (intro h; refine bi ?_; refine Fe ?_; exact h.v)) : g := s ⟨h⟩
theorem dZ {g n : Prop} (h : n) (s : Bx n → g := by (intro h; refine Bz ?_; refine UN ?_; exact h.v)) : g := s ⟨h⟩
theorem Jg {g n : Prop} (h : n) (s : Bx n → g := by (intro h; refine dZ ?_; refine GQ ?_; exact h.v)) : g := s ⟨h⟩
theorem eI {g n : Prop} (h : n) (s : Bx n → g := by (intro h; refine IK ?_; refine HW ?_; exact h.v)) : g := s ⟨h⟩
theorem SO {g n : Prop} (h : n) (s : Bx n → g := by (intro h; refine eI ?_; refine bi ?_; exact h.v)) : g := s ⟨h⟩
theorem Ro {g n : Prop} (h : n) (s : Bx n → g := by (intro h; refine GI ?_; refine Fe ?_; exact h.v)) : g := s ⟨h⟩
theorem Lx {g n : Prop} (h : n) (s : Bx n → g := by (intro h; refine GL ?_; refine Ot ?_; exact h.v)) : g := s ⟨h⟩
theorem WK {g n : Prop} (h : n) (s : Bx n → g := by (intro h; refine Hs ?_; refine dH ?_; exact h.v)) : g := s ⟨h⟩
theorem VL {g n : Prop} (h : n) (s : Bx n → g := by (intro h; refine FA ?_; refine Sf ?_; exact h.v)) : g := s ⟨h⟩
theorem Jr {g n : Prop} (h : n) (s : Bx n → g := by (intro h; refine Co ?_; refine FW ?_; exact h.v)) : g := s ⟨h⟩
theorem Jt {g n : Prop} (h : n) (s : Bx n → g := by (intro h; refine Hs ?_; refine SS ?_; exact h.v)) : g := s ⟨h⟩
theorem Mx {g n : Prop} (h : n) (s : Bx n → g := by (intro h; refine Zo ?_; refine Zo ?_; exact h.v)) : g := s ⟨h⟩
theorem Nq {g n : Prop} (h : n) (s : Bx n → g := by (intro h; refine Bz ?_; refine D7 ?_; exact h.v)) : g := s ⟨h⟩
theorem ZW {g n : Prop} (h : n) (s : Bx n → g := by (intro h; refine GH ?_; refine A2 ?_; exact h.v)) : g := s ⟨h⟩
theorem Ol {g n : Prop} (h : n) (s : Bx n → g := by (intro h; refine Iq ?_; refine Eb ?_; exact h.v)) : g := s ⟨h⟩
theorem On {g n : Prop} (h : n) (s : Bx n → g := by (intro h; refine FW ?_; refine GH ?_; exact h.v)) : g := s ⟨h⟩
theorem QF {g n : Prop} (h : n) (s : Bx n → g := by (intro h; refine A2 ?_; refine Qj ?_; exact h.v)) : g := s ⟨h⟩
theorem MW {g n : Prop} (h : n) (s : Bx n → g := by (intro h; refine Eh ?_; refine EV ?_; exact h.v)) : g := s ⟨h⟩
theorem Wh {g n : Prop} (h : n) (s : Bx n → g := by (intro h; refine If ?_; refine EV ?_; exact h.v)) : g := s ⟨h⟩
theorem Kh {g n : Prop} (h : n) (s : Bx n → g := by (intro h; refine Bz ?_; refine CZ ?_; exact h.v)) : g := s ⟨h⟩
theorem K8 {g n : Prop} (h : n) (s : Bx n → g := by (intro h; refine Co ?_; refine Fe ?_; exact h.v)) : g := s ⟨h⟩
theorem Pn {g n : Prop} (h : n) (s : Bx n → g := by (intro h; refine HS ?_; refine OB ?_; exact h.v)) : g := s ⟨h⟩
theorem Tq {g n : Prop} (h : n) (s : Bx n → g := by (intro h; refine WK ?_; refine ZW ?_; exact h.v)) : g := s ⟨h⟩
theorem PI {g n : Prop} (h : n) (s : Bx n → g := by (intro h; refine Hs ?_; refine VA ?_; exact h.v)) : g := s ⟨h⟩
theorem RU {g n : Prop} (h : n) (s : Bx n → g := by (intro h; refine SF ?_; refine AV ?_; exact h.v)) : g := s ⟨h⟩
theorem LE {g n : Prop} (h : n) (s : Bx n → g := by (intro h; refine Qz ?_; refine LP ?_; exact h.v)) : g := s ⟨h⟩
theorem Mn {g n : Prop} (h : n) (s : Bx n → g := by (intro h; refine S3 ?_; refine AV ?_; exact h.v)) : g := s ⟨h⟩
theorem Y4 {g n : Prop} (h : n) (s : Bx n → g := by (intro h; refine Wf ?_; refine A2 ?_; exact h.v)) : g := s ⟨h⟩
theorem Ms {g n : Prop} (h : n) (s : Bx n → g := by (intro h; refine Co ?_; refine SO ?_; exact h.v)) : g := s ⟨h⟩
theorem UQ {g n : Prop} (h : n) (s : Bx n → g := by (intro h; refine Ja ?_; refine S3 ?_; exact h.v)) : g := s ⟨h⟩
theorem Mj {g n : Prop} (h : n) (s : Bx n → g := by (intro h; refine VL ?_; refine LP ?_; exact h.v)) : g := s ⟨h⟩
theorem Mt {g n : Prop} (h : n) (s : Bx n → g := by (intro h; refine P1 ?_; refine AV ?_; exact h.v)) : g := s ⟨h⟩
theorem Mw {g n : Prop} (h : n) (s : Bx n → g := by (intro h; refine EV ?_; refine DS ?_; exact h.v)) : g := s ⟨h⟩
theorem Uz {g n : Prop} (h : n) (s : Bx n → g := by (intro h; refine Lr ?_; refine D7 ?_; exact h.v)) : g := s ⟨h⟩
theorem Yb {g n : Prop} (h : n) (s : Bx n → g := by (intro h; refine EV ?_; refine Eh ?_; exact h.v)) : g := s ⟨h⟩
theorem Yw {g n : Prop} (h : n) (s : Bx n → g := by (intro h; refine A2 ?_; refine S3 ?_; exact h.v)) : g := s ⟨h⟩
theorem Ox {g n : Prop} (h : n) (s : Bx n → g := by (intro h; refine IK ?_; refine Wh ?_; exact h.v)) : g := s ⟨h⟩
theorem NZ {g n : Prop} (h : n) (s : Bx n → g := by (intro h; refine A2 ?_; refine P1 ?_; exact h.v)) : g := s ⟨h⟩
theorem N2 {g n : Prop} (h : n) (s : Bx n → g := by (intro h; refine AV ?_; refine Bz ?_; exact h.v)) : g := s ⟨h⟩
theorem Nb {g n : Prop} (h : n) (s : Bx n → g := by (intro h; refine Gb ?_; refine Eb ?_; exact h.v)) : g := s ⟨h⟩
theorem aI {g n : Prop} (h : n) (s : Bx n → g := by (intro h; refine Zy ?_; refine aO ?_; exact h.v)) : g := s ⟨h⟩
theorem Ov {g n : Prop} (h : n) (s : Bx n → g := by (intro h; refine Ir ?_; refine D7 ?_; exact h.v)) : g := s ⟨h⟩
theorem Oe {g n : Prop} (h : n) (s : Bx n → g := by (intro h; refine Qz ?_; refine Jq ?_; exact h.v)) : g := s ⟨h⟩
theorem Y9 {g n : Prop} (h : n) (s : Bx n → g := by (intro h; refine Hs ?_; refine Y4 ?_; exact h.v)) : g := s ⟨h⟩
theorem YQ {g n : Prop} (h : n) (s : Bx n → g := by (intro h; refine S3 ?_; refine D7 ?_; exact h.v)) : g := s ⟨h⟩
theorem Qc {g n : Prop} (h : n) (s : Bx n → g := by (intro h; refine Bz ?_; refine H3 ?_; exact h.v)) : g := s ⟨h⟩
theorem Pt {g n : Prop} (h : n) (s : Bx n → g := by (intro h; refine FW ?_; refine HS ?_; exact h.v)) : g := s ⟨h⟩
theorem cf {g n : Prop} (h : n) (s : Bx n → g := by (intro h; refine CZ ?_; refine AV ?_; exact h.v)) : g := s ⟨h⟩
theorem YY {g n : Prop} (h : n) (s : Bx n → g := by (intro h; refine Jq ?_; refine AV ?_; exact h.v)) : g := s ⟨h⟩
theorem aL {g n : Prop} (h : n) (s : Bx n → g := by (intro h; refine LP ?_; refine AV ?_; exact h.v)) : g := s ⟨h⟩
theorem cv {g n : Prop} (h : n) (s : Bx n → g := by (intro h; refine A2 ?_; refine Zb ?_; exact h.v)) : g := s ⟨h⟩
theorem bP {g n : Prop} (h : n) (s : Bx n → g := by (intro h; refine Vx ?_; refine Hy ?_; exact h.v)) : g := s ⟨h⟩
theorem cL {g n : Prop} (h : n) (s : Bx n → g := by (intro h; refine QF ?_; refine Hh ?_; exact h.v)) : g := s ⟨h⟩
theorem Ql {g n : Prop} (h : n) (s : Bx n → g := by (intro h; refine Hc ?_; refine EV ?_; exact h.v)) : g := s ⟨h⟩
theorem P2 {g n : Prop} (h : n) (s : Bx n → g := by (intro h; refine IK ?_; refine HS ?_; exact h.v)) : g := s ⟨h⟩
theorem PA {g n : Prop} (h : n) (s : Bx n → g := by (intro h; refine Co ?_; refine HP ?_; exact h.v)) : g := s ⟨h⟩
theorem RB {g n : Prop} (h : n) (s : Bx n → g := by (intro h; refine Xm ?_; refine AV ?_; exact h.v)) : g := s ⟨h⟩
theorem YI {g n : Prop} (h : n) (s : Bx n → g := by (intro h; refine A2 ?_; refine Yz ?_; exact h.v)) : g := s ⟨h⟩
theorem Xw {g n : Prop} (h : n) (s : Bx n → g := by (intro h; refine Yw ?_; refine Hh ?_; exact h.v)) : g := s ⟨h⟩
theorem Ra {g n : Prop} (h : n) (s : Bx n → g := by (intro h; refine Bz ?_; refine Ld ?_; exact h.v)) : g := s ⟨h⟩
theorem Tf {g n : Prop} (h : n) (s : Bx n → g := by (intro h; refine FA ?_; refine NI ?_; exact h.v)) : g := s ⟨h⟩
theorem RN {g n : Prop} (h : n) (s : Bx n → g := by (intro h; refine HX ?_; refine Iq ?_; exact h.v)) : g := s ⟨h⟩
theorem Qo {g n : Prop} (h : n) (s : Bx n → g := by (intro h; refine PY ?_; refine H3 ?_; exact h.v)) : g := s ⟨h⟩
theorem U8 {g n : Prop} (h : n) (s : Bx n → g := by (intro h; refine Gm ?_; refine Eb ?_; exact h.v)) : g := s ⟨h⟩
theorem RQ {g n : Prop} (h : n) (s : Bx n → g := by (intro h; refine DS ?_; refine Fe ?_; exact h.v)) : g := s ⟨h⟩
theorem Z4 {g n : Prop} (h : n) (s : Bx n → g := by (intro h; refine Lw ?_; refine aI ?_; exact h.v)) : g := s ⟨h⟩
theorem QJ {g n : Prop} (h : n) (s : Bx n → g := by (intro h; refine HW ?_; refine KH ?_; exact h.v)) : g := s ⟨h⟩
theorem Qt {g n : Prop} (h : n) (s : Bx n → g := by (intro h; refine E1 ?_; refine HQ ?_; exact h.v)) : g := s ⟨h⟩
theorem Wc {g n : Prop} (h : n) (s : Bx n → g := by (intro h; refine FA ?_; refine LP ?_; exact h.v)) : g := s ⟨h⟩
theorem QB {g n : Prop} (h : n) (s : Bx n → g := by (intro h; refine E1 ?_; refine Lr ?_; exact h.v)) : g := s ⟨h⟩
theorem b4 {g n : Prop} (h : n) (s : Bx n → g := by (intro h; refine Ja ?_; refine Vg ?_; exact h.v)) : g := s ⟨h⟩
theorem SQ {g n : Prop} (h : n) (s : Bx n → g := by (intro h; refine Vx ?_; refine CZ ?_; exact h.v)) : g := s ⟨h⟩
theorem Rl {g n : Prop} (h : n) (s : Bx n → g := by (intro h; refine Yb ?_; refine Mq ?_; exact h.v)) : g := s ⟨h⟩
theorem Ry {g n : Prop} (h : n) (s : Bx n → g := by (intro h; refine A2 ?_; refine cf ?_; exact h.v)) : g := s ⟨h⟩
theorem Rn {g n : Prop} (h : n) (s : Bx n → g := by (intro h; refine Eb ?_; refine NH ?_; exact h.v)) : g := s ⟨h⟩
theorem d9 {g n : Prop} (h : n) (s : Bx n → g := by (intro h; refine Tq ?_; refine cm ?_; exact h.v)) : g := s ⟨h⟩
theorem ei {g n : Prop} (h : n) (s : Bx n → g := by (intro h; refine d9 ?_; refine cv ?_; exact h.v)) : g := s ⟨h⟩
theorem Qu {g n : Prop} (h : n) (s : Bx n → g := by (intro h; refine ei ?_; refine cL ?_; exact h.v)) : g := s ⟨h⟩
theorem cJ {g n : Prop} (h : n) (s : Bx n → g := by (intro h; refine eA ?_; refine A2 ?_; exact h.v)) : g := s ⟨h⟩
theorem U9 {g n : Prop} (h : n) (s : Bx n → g := by (intro h; refine Kr ?_; refine JV ?_; exact h.v)) : g := s ⟨h⟩
theorem UR {g n : Prop} (h : n) (s : Bx n → g := by (intro h; refine Mk ?_; refine CZ ?_; exact h.v)) : g := s ⟨h⟩
theorem VU {g n : Prop} (h : n) (s : Bx n → g := by (intro h; refine UQ ?_; refine Hy ?_; exact h.v)) : g := s ⟨h⟩
theorem Si {g n : Prop} (h : n) (s : Bx n → g := by (intro h; refine UN ?_; refine CZ ?_; exact h.v)) : g := s ⟨h⟩
theorem Sk {g n : Prop} (h : n) (s : Bx n → g := by (intro h; refine FA ?_; refine Jq ?_; exact h.v)) : g := s ⟨h⟩
theorem SZ {g n : Prop} (h : n) (s : Bx n → g := by (intro h; refine P8 ?_; refine EV ?_; exact h.v)) : g := s ⟨h⟩
theorem So {g n : Prop} (h : n) (s : Bx n → g := by (intro h; refine A2 ?_; refine Um ?_; exact h.v)) : g := s ⟨h⟩
theorem S6 {g n : Prop} (h : n) (s : Bx n → g := by (intro h; refine Ir ?_; refine GM ?_; exact h.v)) : g := s ⟨h⟩
theorem R4 {g n : Prop} (h : n) (s : Bx n → g := by (intro h; refine Bz ?_; refine Uz ?_; exact h.v)) : g := s ⟨h⟩
theorem Sq {g n : Prop} (h : n) (s : Bx n → g := by (intro h; refine Ol ?_; refine Kx ?_; exact h.v)) : g := s ⟨h⟩
theorem R6 {g n : Prop} (h : n) (s : Bx n → g := by (intro h; refine On ?_; refine dS ?_; exact h.v)) : g := s ⟨h⟩
theorem SE {g n : Prop} (h : n) (s : Bx n → g := by (intro h; refine Co ?_; refine Eg ?_; exact h.v)) : g := s ⟨h⟩
theorem Ux {g n : Prop} (h : n) (s : Bx n → g := by (intro h; refine Kr ?_; refine Eb ?_; exact h.v)) : g := s ⟨h⟩
theorem SX {g n : Prop} (h : n) (s : Bx n → g := by (intro h; refine Hs ?_; refine aL ?_; exact h.v)) : g := s ⟨h⟩
theorem U5 {g n : Prop} (h : n) (s : Bx n → g := by (intro h; refine A2 ?_; refine bP ?_; exact h.v)) : g := s ⟨h⟩
theorem Sj {g n : Prop} (h : n) (s : Bx n → g := by (intro h; refine Qj ?_; refine AV ?_; exact h.v)) : g := s ⟨h⟩
theorem Tc {g n : Prop} (h : n) (s : Bx n → g := by (intro h; refine YR ?_; refine Wf ?_; exact h.v)) : g := s ⟨h⟩
theorem SD {g n : Prop} (h : n) (s : Bx n → g := by (intro h; refine Y9 ?_; refine cJ ?_; exact h.v)) : g := s ⟨h⟩
theorem Za {g n : Prop} (h : n) (s : Bx n → g := by (intro h; refine Gm ?_; refine GF rfl BL ?_; exact h.v)) : g := s ⟨h⟩
theorem au {g n : Prop} (h : n) (s : Bx n → g := by (intro h; refine Hc ?_; refine Kf rfl (WG T7 ZD) ?_; exact h.v)) : g := s ⟨h⟩
theorem UE {g n : Prop} (h : n) (s : Bx n → g := by (intro h; refine Kr ?_; refine Rz ?_; exact h.v)) : g := s ⟨h⟩
theorem Vt {g n : Prop} (h : n) (s : Bx n → g := by (intro h; refine Ro ?_; refine DS ?_; exact h.v)) : g := s ⟨h⟩
theorem V0 {g n : Prop} (h : n) (s : Bx n → g := by (intro h; refine UN ?_; refine Hh ?_; exact h.v)) : g := s ⟨h⟩
theorem U4 {g n : Prop} (h : n) (s : Bx n → g := by (intro h; refine Nq ?_; refine DS ?_; exact h.v)) : g := s ⟨h⟩
theorem VK {g n : Prop} (h : n) (s : Bx n → g := by (intro h; refine Z4 ?_; refine Pn ?_; exact h.v)) : g := s ⟨h⟩
theorem UW {g n : Prop} (h : n) (s : Bx n → g := by (intro h; refine HQ ?_; refine PE ?_; exact h.v)) : g := s ⟨h⟩
theorem U3 {g n : Prop} (h : n) (s : Bx n → g := by (intro h; refine E1 ?_; refine PE ?_; exact h.v)) : g := s ⟨h⟩
theorem UZ {g n : Prop} (h : n) (s : Bx n → g := by (intro h; refine Lr ?_; refine Hh ?_; exact h.v)) : g := s ⟨h⟩
theorem VS {g n : Prop} (h : n) (s : Bx n → g := by (intro h; refine AV ?_; refine Fe ?_; exact h.v)) : g := s ⟨h⟩
theorem V2 {g n : Prop} (h : n) (s : Bx n → g := by (intro h; refine P8 ?_; refine Eb ?_; exact h.v)) : g := s ⟨h⟩
theorem Vz {g n : Prop} (h : n) (s : Bx n → g := by (intro h; refine b4 ?_; refine Hh ?_; exact h.v)) : g := s ⟨h⟩
theorem Vk {g n : Prop} (h : n) (s : Bx n → g := by (intro h; refine Ja ?_; refine Um ?_; exact h.v)) : g := s ⟨h⟩
theorem UM {g n : Prop} (h : n) (s : Bx n → g := by (intro h; refine Mx ?_; refine Sf ?_; exact h.v)) : g := s ⟨h⟩
theorem VH {g n : Prop} (h : n) (s : Bx n → g := by (intro h; refine A2 ?_; refine YY ?_; exact h.v)) : g := s ⟨h⟩
theorem Vh {g n : Prop} (h : n) (s : Bx n → g := by (intro h; refine Lx ?_; refine Ir ?_; exact h.v)) : g := s ⟨h⟩
theorem Uy {g n : Prop} (h : n) (s : Bx n → g := by (intro h; refine Km ?_; refine Mq ?_; exact h.v)) : g := s ⟨h⟩
theorem UB {g n : Prop} (h : n) (s : Bx n → g := by (intro h; refine HX ?_; refine DS ?_; exact h.v)) : g := s ⟨h⟩
theorem Vb {g n : Prop} (h : n) (s : Bx n → g := by (intro h; refine GH ?_; refine cm ?_; exact h.v)) : g := s ⟨h⟩
theorem Uq {g n : Prop} (h : n) (s : Bx n → g := by (intro h; refine QX ?_; refine ep ?_; exact h.v)) : g := s ⟨h⟩
theorem UK {g n : Prop} (h : n) (s : Bx n → g := by (intro h; refine QK ?_; refine Hy ?_; exact h.v)) : g := s ⟨h⟩
theorem VB {g n : Prop} (h : n) (s : Bx n → g := by (intro h; refine Ro ?_; refine MW ?_; exact h.v)) : g := s ⟨h⟩
theorem Vq {g n : Prop} (h : n) (s : Bx n → g := by (intro h; refine Bz ?_; refine YQ ?_; exact h.v)) : g := s ⟨h⟩
end Go.Proofs.YtilhbalhkljanaaGreatDoor
