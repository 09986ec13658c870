/- Short words for the walks. No condition. -/
import Derived.Test.YtjofelloaofooaaGreatDoorTy
import Derived.Test.YtjofelloaofooaaGreatDoorPf
set_option linter.unusedVariables false
namespace Go.Proofs.YtjofelloaofooaaGreatDoor
structure Bx (n : Prop) : Prop where
 v : n
theorem ws {p : Prop} (h : p := by (repeat (first | with_reducible exact WS.refl _ | refine WS.add ?_ rfl | exact WS.refl _))) : p := h
theorem tw {p : Prop} (h : p := by (refine ⟨_, hF, .hd (.refl _) ?_⟩; repeat (first | with_reducible exact WS.refl _ | refine WS.add ?_ rfl | exact WS.refl _))) : p := h
theorem th {p : Prop} (h : p := by (first | refine .hd (Aap (by assumption)) ?_ | refine .hd (Abd (by assumption)) ?_ | refine .hd (Zx (by assumption)) ?_ | refine .hd (Y5 (by assumption)) ?_); (repeat (first | with_reducible exact WS.refl _ | refine WS.add ?_ rfl | exact WS.refl _))) : p := h
theorem rt {p : Prop} (h : p := by (repeat (first | with_reducible refine Exit.sel_ret ?_ | with_reducible refine Exit.blk_ret ?_ | with_reducible refine Exit.jmp_ret ?_)); refine OI rfl (by repeat' first | exact .nil | apply RV.tmp (v := .int _ _) rfl | apply RV.tmp (v := .bool _) rfl | apply RV.tmp (v := .str _) rfl | apply RV.tmp (v := .sl _ _ _) rfl | apply RV.tmp (v := .agg _) rfl | apply RV.tmp (v := ifD _) rfl | apply RV.tmp (v := E4 _ _ _) rfl | apply RV.tmp (v := ZI _ _ _ _) rfl | apply RV.tmp (v := .float _ _) rfl | apply RV.tmp (v := .cplx _ _ _) rfl) ?_; first | exact ⟨_, _, .refl _, ok.wh, _, AL hF, rfl, rfl⟩ | exact ⟨_, _, .refl _, WH.refl _, _, AL hF, rfl⟩ | (refine ⟨_, _, ?_, ok.wh, _, AL hF, rfl, rfl⟩; repeat' first | exact .refl _ | exact .zero _ _ _ | exact .nil _ | exact .nil | refine .tupC ?_ | refine .aggC ?_ | refine Wd.toE (.aggC ?_) (none_eq _) | refine .cons ?_ ?_) | (refine ⟨_, _, ?_, WH.refl _, _, AL hF, rfl⟩; repeat' first | exact .refl _ | exact .zero _ _ _ | exact .nil _ | exact .nil | refine .tupC ?_ | refine .aggC ?_ | refine Wd.toE (.aggC ?_) (none_eq _) | refine .cons ?_ ?_)) : p := h
theorem oy {h : Heap} {O O' : List (Nat × AObj)} (ok : OK h O) (w : WO O O' := by (repeat' first | exact .refl _ | refine .keep ?_ | refine .drop ?_ | exact .nil)) : OK h O' := (w.spec ok).1
theorem hy {h : Heap} {O O' : List (Nat × AObj)} (ok : OK h O) (w : WO O O' := by (repeat' first | exact .refl _ | refine .keep ?_ | refine .drop ?_ | exact .nil)) : WH (Hp h O) (Hp h O') := (w.spec ok).2.2
theorem wy {n : Nat} {l l' : List (Nat × D)} {h : Heap} {O O' : List (Nat × AObj)} (ok : OK h O) (hl : WL n l l' := by (repeat' first | exact .refl _ | exact .zero _ _ _ | exact .nil _ | exact .nil | refine .tupC ?_ | refine .aggC ?_ | refine Wd.toE (.aggC ?_) (none_eq _) | refine .cons ?_ ?_)) (w : WO O O' := by (repeat' first | exact .refl _ | refine .keep ?_ | refine .drop ?_ | exact .nil)) : WS ⟨AM n l, Hp h O⟩ ⟨AM n l', Hp h O'⟩ := WS.mk' hl ok w
theorem okT {ρ β : Type} {P : Program} {g : FuncId} {ds : List D} {H : Heap} {X : Option ρ} {Q : ρ -> D -> Heap -> Prop} {f : ρ -> Option β} {G : β -> Prop} {R : D -> Heap -> Prop} (w : ∀ G : ρ -> Prop, OptP X G -> CallsA P g ds H fun d h' => ∃ r, G r /\ Q r d h') (hF : OptP (X.bind f) G) (hk : ∀ r d h', X = some r -> Q r d h' -> OptP (f r) G -> R d h') : CallsA P g ds H R := by
 obtain ⟨r0, hr, hF⟩ := By hF;refine (w (fun r => r = r0) ⟨r0, hr, rfl⟩).mono ?_;rintro d h' ⟨r, rfl, hq⟩;exact hk _ _ _ hr hq hF
abbrev Zs (h : Heap) (O : List (Nat × AObj)) (n : Nat) (l : List (Nat × D)) (s : St) : Prop := OK h O /\ WS s ⟨AM n l, Hp h O⟩
theorem st_ {P : Program} {md : Nat -> Nat} {w : Bool} {ops : Array Oper} {os : List Oper} {k : St -> Prop} {n : Nat} {l : List (Nat × D)} {h : Heap} {t ty : TypeId} {pos : String} {af : Array Edge} {x y : Operand} {O : List (Nat × AObj)} {i off : Nat} {cs cs' : List D} {v : D} {c : Nat} (j : Nat) (ok : OK h O) (hi : i ≠ 0) (h2 : szD P t = some c) (hk : OK h (O.set j (i, .cells cs')) -> A0 P md w ops os ⟨AM n l, Hp h (O.set j (i, .cells cs'))⟩ k) (hx : opL n l x = .ptr i off := by rfl) (hy : opL n l y = v := by rfl) (hj : O[j]? = some (i, .cells cs) := by rfl) (h1 : v.lay = true := by rfl) (hc : v.cells.length = c := by rfl) (h3 : Nat.ble (off + v.cells.length) cs.length = true := by rfl) (h4 : FL cs off v.cells = cs' := by (dsimp only [FL, D.cells, bi, bj, Nat.zero_add, Nat.reduceAdd, List.take_succ_cons, List.take_zero, List.drop_succ_cons, List.drop_zero, List.nil_append, List.cons_append] <;> exact rfl)) : A0 P md w ops (⟨none, .store t x y, ty, pos, af, none⟩ :: os) ⟨AM n l, Hp h O⟩ k := Ov ok hx hy hj hi h1 (by rw [h2, hc]) h3 h4 hk
section
variable {g n : Prop} (h : n)
include h
theorem rp (s : Bx n -> g := by (intro h; (repeat (first | with_reducible refine Exit.sel_pan ?_ | with_reducible refine Exit.blk_pan ?_)); exact h.v)) : g := s ⟨h⟩
theorem rr (s : Bx n -> g := by (intro h; (repeat (first | with_reducible refine Exit.sel_ret ?_ | with_reducible refine Exit.blk_ret ?_ | with_reducible refine Exit.jmp_ret ?_)); refine OI rfl (by repeat' first | exact .nil | apply RV.tmp (v := .int _ _) rfl | apply RV.tmp (v := .bool _) rfl | apply RV.tmp (v := .str _) rfl | apply RV.tmp (v := .sl _ _ _) rfl | apply RV.tmp (v := .agg _) rfl | apply RV.tmp (v := ifD _) rfl | apply RV.tmp (v := E4 _ _ _) rfl | apply RV.tmp (v := ZI _ _ _ _) rfl | apply RV.tmp (v := .float _ _) rfl | apply RV.tmp (v := .cplx _ _ _) rfl) ?_; exact h.v)) : g := s ⟨h⟩
end
theorem cl {P : Program} {md : Nat -> Nat} {w : Bool} {ops : Array Oper} {os : List Oper} {k : St -> Prop} {n : Nat} {l : List (Nat × D)} {h : Heap} {d : Nat} {ty : TypeId} {pos : String} {af : Array Edge} {g : FuncId} {args : Array Operand} {ts : Array TypeId} {ds : List D} (hc : CallsA P g ds h fun v h' => A0 P md w ops os ⟨AM n ((d, v) :: l), h'⟩ k) (hw : WdC (args.toList.map (opL n l)) ds := by (repeat' first | exact .refl _ | exact .zero _ _ _ | exact .nil _ | exact .nil | refine .tupC ?_ | refine .aggC ?_ | refine Wd.toE (.aggC ?_) (none_eq _) | refine .cons ?_ ?_)) : A0 P md w ops (⟨some d, .call ⟨.value (.func g), args, ts⟩, ty, pos, af, none⟩ :: os) ⟨AM n l, h⟩ k := EX hc hw
section
variable {g n : Prop} (h : n)
include h
theorem D7 (s : Bx n -> g := by (intro h; refine EB ?_; exact h.v)) : g := s ⟨h⟩
theorem K8 (s : Bx n -> g := by (intro h; refine EY ?_; exact h.v)) : g := s ⟨h⟩
theorem XH (s : Bx n -> g := by (intro h; refine VT ?_; exact h.v)) : g := s ⟨h⟩
theorem PQ (s : Bx n -> g := by (intro h; refine C6 (mdl []) ?_; exact h.v)) : g := s ⟨h⟩
theorem Aaq (s : Bx n -> g := by (intro h; refine Aan rfl rfl (by assumption) ?_; exact h.v)) : g := s ⟨h⟩
theorem Abb (s : Bx n -> g := by (intro h; refine Ab8 ?_; exact h.v)) : g := s ⟨h⟩
theorem Abj (s : Bx n -> g := by (intro h; refine UU rfl rfl (by assumption) ?_; exact h.v)) : g := s ⟨h⟩
theorem Iu (s : Bx n -> g := by (intro h; refine S_m (v := .int _ _) rfl ?_; exact h.v)) : g := s ⟨h⟩
theorem Abu (s : Bx n -> g := by (intro h; refine S_a (v := .bool _) rfl ?_; exact h.v)) : g := s ⟨h⟩
theorem N7 (s : Bx n -> g := by (intro h; refine S_a (v := .int _ _) rfl ?_; exact h.v)) : g := s ⟨h⟩
theorem UM (s : Bx n -> g := by (intro h; refine NZ ?_; exact h.v)) : g := s ⟨h⟩
theorem E1 (s : Bx n -> g := by (intro h; refine S_m (v := .bool _) rfl ?_; exact h.v)) : g := s ⟨h⟩
theorem Gf (s : Bx n -> g := by (intro h; refine Hs ?_; exact h.v)) : g := s ⟨h⟩
theorem XU (s : Bx n -> g := by (intro h; refine QI (v := .bool _) rfl (by assumption) rfl ?_; exact h.v)) : g := s ⟨h⟩
theorem XN (s : Bx n -> g := by (intro h; refine UH (v := .bool _) rfl (by assumption) rfl ?_; exact h.v)) : g := s ⟨h⟩
theorem Acq (s : Bx n -> g := by (intro h; refine WI rfl rfl ?_; exact h.v)) : g := s ⟨h⟩
theorem Mi (s : Bx n -> g := by (intro h; refine IC ?_; exact h.v)) : g := s ⟨h⟩
theorem Mp (s : Bx n -> g := by (intro h; refine S_m (v := .str _) rfl ?_; exact h.v)) : g := s ⟨h⟩
theorem TX (s : Bx n -> g := by (intro h; refine D1 rfl rfl (Lm ..) ?_; exact h.v)) : g := s ⟨h⟩
theorem Tt (s : Bx n -> g := by (intro h; refine D1 rfl rfl (Ti ..) ?_; exact h.v)) : g := s ⟨h⟩
theorem O6 (s : Bx n -> g := by (intro h; refine S_m (v := .sl _ _ _) rfl ?_; exact h.v)) : g := s ⟨h⟩
theorem Z3 (s : Bx n -> g := by (intro h; refine D1 rfl rfl (Su ..) ?_; exact h.v)) : g := s ⟨h⟩
theorem Ab1 (s : Bx n -> g := by (intro h; refine QY ?_; exact h.v)) : g := s ⟨h⟩
theorem Abx (s : Bx n -> g := by (intro h; simp only [Exit.sel, Exit.blk, Exit.jmp, if_true, if_false, reduceIte, Nat.reduceEqDiff, Nat.succ_ne_zero, Nat.zero_ne_one, Nat.one_ne_zero]; exact h.v)) : g := s ⟨h⟩
theorem SL (s : Bx n -> g := by (intro h; refine Az rfl (A7 AV Al rfl) ?_; exact h.v)) : g := s ⟨h⟩
theorem Ab6 (s : Bx n -> g := by (intro h; refine S_a (v := .str _) rfl ?_; exact h.v)) : g := s ⟨h⟩
theorem SC (s : Bx n -> g := by (intro h; refine D1 rfl rfl (Xe ..) ?_; exact h.v)) : g := s ⟨h⟩
theorem Tn (s : Bx n -> g := by (intro h; refine YB rfl rfl ?_; exact h.v)) : g := s ⟨h⟩
theorem Vf (s : Bx n -> g := by (intro h; refine IU rfl DG ?_; exact h.v)) : g := s ⟨h⟩
theorem XO (s : Bx n -> g := by (intro h; refine D1 rfl rfl (W9 ..) ?_; exact h.v)) : g := s ⟨h⟩
theorem VX (s : Bx n -> g := by (intro h; refine Abg rfl (VE _) ?_; exact h.v)) : g := s ⟨h⟩
theorem Xr (s : Bx n -> g := by (intro h; refine D1 rfl rfl (SJ ..) ?_; exact h.v)) : g := s ⟨h⟩
theorem Tq (s : Bx n -> g := by (intro h; refine Xx rfl BS ?_; exact h.v)) : g := s ⟨h⟩
theorem Vd (s : Bx n -> g := by (intro h; refine S_a (v := .sl _ _ _) rfl ?_; exact h.v)) : g := s ⟨h⟩
theorem PB (s : Bx n -> g := by (intro h; refine D1 rfl rfl Xp ?_; exact h.v)) : g := s ⟨h⟩
theorem T0 (s : Bx n -> g := by (intro h; refine IU rfl ER ?_; exact h.v)) : g := s ⟨h⟩
theorem Tj (s : Bx n -> g := by (intro h; refine S_m (v := .ptr _ _) rfl ?_; exact h.v)) : g := s ⟨h⟩
theorem SM (s : Bx n -> g := by (intro h; refine D1 rfl rfl (Sw ..) ?_; exact h.v)) : g := s ⟨h⟩
theorem ZM (s : Bx n -> g := by (intro h; refine A3 rfl FV Al rfl ?_; exact h.v)) : g := s ⟨h⟩
theorem RC (s : Bx n -> g := by (intro h; refine D1 rfl rfl Tr ?_; exact h.v)) : g := s ⟨h⟩
theorem Re (s : Bx n -> g := by (intro h; refine S_m (v := E4 _ _ _) rfl ?_; exact h.v)) : g := s ⟨h⟩
theorem Vb (s : Bx n -> g := by (intro h; refine D1 rfl rfl (Xi ..) ?_; exact h.v)) : g := s ⟨h⟩
theorem Aak (s : Bx n -> g := by (intro h; refine A3 rfl G6 Al rfl ?_; exact h.v)) : g := s ⟨h⟩
theorem Ab2 (s : Bx n -> g := by (intro h; refine S_m (v := .tup _) rfl ?_; exact h.v)) : g := s ⟨h⟩
theorem X0 (s : Bx n -> g := by (intro h; refine H5 (j := 0) ok rfl rfl rfl (by assumption) (A7 (v := .str _) AV Al rfl) ?_; exact h.v)) : g := s ⟨h⟩
theorem XC (s : Bx n -> g := by (intro h; refine H5 (j := 0) ok rfl rfl rfl (by assumption) (A7 (v := .int _ _) DS Bo rfl) ?_; exact h.v)) : g := s ⟨h⟩
theorem Sn (s : Bx n -> g := by (intro h; refine S_a (v := E4 _ _ _) rfl ?_; exact h.v)) : g := s ⟨h⟩
theorem ZE (s : Bx n -> g := by (intro h; refine IU rfl DJ ?_; exact h.v)) : g := s ⟨h⟩
theorem Sx (s : Bx n -> g := by (intro h; refine S_m (v := .fn (.func _) _ _) rfl ?_; exact h.v)) : g := s ⟨h⟩
theorem Y2 (s : Bx n -> g := by (intro h; refine Ix rfl JQ A9 ?_; exact h.v)) : g := s ⟨h⟩
theorem Z4 (s : Bx n -> g := by (intro h; refine IU rfl HL ?_; exact h.v)) : g := s ⟨h⟩
theorem ZS (s : Bx n -> g := by (intro h; refine Ix rfl B1 Bo ?_; exact h.v)) : g := s ⟨h⟩
theorem XB (s : Bx n -> g := by (intro h; refine A3 rfl JQ A9 rfl ?_; exact h.v)) : g := s ⟨h⟩
theorem YM (s : Bx n -> g := by (intro h; refine NE (v := .ptr _ _) rfl rfl ?_; exact h.v)) : g := s ⟨h⟩
theorem Abk (s : Bx n -> g := by (intro h; refine S7 rfl rfl HL BS Nb ?_; exact h.v)) : g := s ⟨h⟩
theorem ZG (s : Bx n -> g := by (intro h; refine Ix rfl FV Al ?_; exact h.v)) : g := s ⟨h⟩
theorem Ab3 (s : Bx n -> g := by (intro h; refine Ix rfl Hc IF ?_; exact h.v)) : g := s ⟨h⟩
theorem Aa7 (s : Bx n -> g := by (intro h; refine Ix rfl H6 Al ?_; exact h.v)) : g := s ⟨h⟩
theorem Yj (s : Bx n -> g := by (intro h; refine Qw rfl (Yi HL Nb BS) ?_; exact h.v)) : g := s ⟨h⟩
theorem C5 (s : Bx n -> g := by (intro h; refine K8 ?_; refine PQ ?_; exact h.v)) : g := s ⟨h⟩
theorem GQ (s : Bx n -> g := by (intro h; refine Aaq ?_; refine Abb ?_; exact h.v)) : g := s ⟨h⟩
theorem VK (s : Bx n -> g := by (intro h; refine Abj ?_; refine XH ?_; exact h.v)) : g := s ⟨h⟩
theorem BE (s : Bx n -> g := by (intro h; refine D7 ?_; refine GQ ?_; exact h.v)) : g := s ⟨h⟩
theorem O7 (s : Bx n -> g := by (intro h; refine VK ?_; refine VK ?_; exact h.v)) : g := s ⟨h⟩
theorem Ha (s : Bx n -> g := by (intro h; refine Abu ?_; refine D7 ?_; exact h.v)) : g := s ⟨h⟩
theorem Rv (s : Bx n -> g := by (intro h; refine XU ?_; refine D7 ?_; exact h.v)) : g := s ⟨h⟩
theorem SO (s : Bx n -> g := by (intro h; refine XN ?_; refine D7 ?_; exact h.v)) : g := s ⟨h⟩
theorem Y0 (s : Bx n -> g := by (intro h; refine Acq ?_; refine XH ?_; exact h.v)) : g := s ⟨h⟩
theorem Jv (s : Bx n -> g := by (intro h; refine N7 ?_; refine D7 ?_; exact h.v)) : g := s ⟨h⟩
theorem Jw (s : Bx n -> g := by (intro h; refine C5 ?_; refine Iu ?_; exact h.v)) : g := s ⟨h⟩
theorem Gv (s : Bx n -> g := by (intro h; refine Ha ?_; refine UM ?_; exact h.v)) : g := s ⟨h⟩
theorem ZN (s : Bx n -> g := by (intro h; refine Iu ?_; refine D7 ?_; exact h.v)) : g := s ⟨h⟩
theorem Si (s : Bx n -> g := by (intro h; refine Iu ?_; refine BE ?_; exact h.v)) : g := s ⟨h⟩
theorem YC (s : Bx n -> g := by (intro h; refine Y0 ?_; refine Y0 ?_; exact h.v)) : g := s ⟨h⟩
theorem Ol (s : Bx n -> g := by (intro h; refine GQ ?_; refine Si ?_; exact h.v)) : g := s ⟨h⟩
theorem Hz (s : Bx n -> g := by (intro h; refine Ab1 ?_; refine Abx ?_; exact h.v)) : g := s ⟨h⟩
theorem Qt (s : Bx n -> g := by (intro h; refine Z3 ?_; refine D7 ?_; exact h.v)) : g := s ⟨h⟩
theorem Vc (s : Bx n -> g := by (intro h; refine O7 ?_; refine VK ?_; exact h.v)) : g := s ⟨h⟩
theorem HG (s : Bx n -> g := by (intro h; refine D7 ?_; refine SO ?_; exact h.v)) : g := s ⟨h⟩
theorem O4 (s : Bx n -> g := by (intro h; refine D7 ?_; refine Rv ?_; exact h.v)) : g := s ⟨h⟩
theorem IP (s : Bx n -> g := by (intro h; refine C5 ?_; refine Gv ?_; exact h.v)) : g := s ⟨h⟩
theorem Tp (s : Bx n -> g := by (intro h; refine Jv ?_; refine UM ?_; exact h.v)) : g := s ⟨h⟩
theorem Aal (s : Bx n -> g := by (intro h; refine PQ ?_; refine Tt ?_; exact h.v)) : g := s ⟨h⟩
theorem WU (s : Bx n -> g := by (intro h; refine Aal ?_; refine ZN ?_; exact h.v)) : g := s ⟨h⟩
theorem NJ (s : Bx n -> g := by (intro h; refine O7 ?_; refine O7 ?_; exact h.v)) : g := s ⟨h⟩
theorem Vl (s : Bx n -> g := by (intro h; refine Gf ?_; refine K8 ?_; exact h.v)) : g := s ⟨h⟩
theorem Nl (s : Bx n -> g := by (intro h; refine C5 ?_; refine Mp ?_; exact h.v)) : g := s ⟨h⟩
theorem Acr (s : Bx n -> g := by (intro h; refine C5 ?_; refine Qt ?_; exact h.v)) : g := s ⟨h⟩
theorem KJ (s : Bx n -> g := by (intro h; refine Acr ?_; refine K8 ?_; exact h.v)) : g := s ⟨h⟩
theorem SX (s : Bx n -> g := by (intro h; refine Ab6 ?_; refine D7 ?_; exact h.v)) : g := s ⟨h⟩
theorem Vi (s : Bx n -> g := by (intro h; refine ZN ?_; refine Mi ?_; exact h.v)) : g := s ⟨h⟩
theorem XI (s : Bx n -> g := by (intro h; refine Vl ?_; refine Mi ?_; exact h.v)) : g := s ⟨h⟩
theorem Ju (s : Bx n -> g := by (intro h; refine C5 ?_; refine O6 ?_; exact h.v)) : g := s ⟨h⟩
theorem OS (s : Bx n -> g := by (intro h; refine K8 ?_; refine Jw ?_; exact h.v)) : g := s ⟨h⟩
theorem Xa (s : Bx n -> g := by (intro h; refine E1 ?_; refine D7 ?_; exact h.v)) : g := s ⟨h⟩
theorem O9 (s : Bx n -> g := by (intro h; refine D7 ?_; refine C5 ?_; exact h.v)) : g := s ⟨h⟩
theorem Vk (s : Bx n -> g := by (intro h; refine Mp ?_; refine BE ?_; exact h.v)) : g := s ⟨h⟩
theorem Vg (s : Bx n -> g := by (intro h; refine PQ ?_; refine Iu ?_; exact h.v)) : g := s ⟨h⟩
theorem Abc (s : Bx n -> g := by (intro h; refine TX ?_; refine Ha ?_; exact h.v)) : g := s ⟨h⟩
theorem Qv (s : Bx n -> g := by (intro h; refine C5 ?_; refine Ha ?_; exact h.v)) : g := s ⟨h⟩
theorem Z9 (s : Bx n -> g := by (intro h; refine Rv ?_; refine D7 ?_; exact h.v)) : g := s ⟨h⟩
theorem Aa4 (s : Bx n -> g := by (intro h; refine SO ?_; refine D7 ?_; exact h.v)) : g := s ⟨h⟩
theorem VL (s : Bx n -> g := by (intro h; refine O7 ?_; refine SO ?_; exact h.v)) : g := s ⟨h⟩
theorem UR (s : Bx n -> g := by (intro h; refine C5 ?_; refine Abc ?_; exact h.v)) : g := s ⟨h⟩
theorem YN (s : Bx n -> g := by (intro h; refine BE ?_; refine Xa ?_; exact h.v)) : g := s ⟨h⟩
theorem Aaa (s : Bx n -> g := by (intro h; refine YC ?_; refine YC ?_; exact h.v)) : g := s ⟨h⟩
theorem UQ (s : Bx n -> g := by (intro h; refine XI ?_; refine K8 ?_; exact h.v)) : g := s ⟨h⟩
theorem Oe (s : Bx n -> g := by (intro h; refine O7 ?_; refine Rv ?_; exact h.v)) : g := s ⟨h⟩
theorem Vp (s : Bx n -> g := by (intro h; refine GQ ?_; refine Vk ?_; exact h.v)) : g := s ⟨h⟩
theorem Aay (s : Bx n -> g := by (intro h; refine BE ?_; refine TX ?_; exact h.v)) : g := s ⟨h⟩
theorem Lj (s : Bx n -> g := by (intro h; refine C5 ?_; refine Tp ?_; exact h.v)) : g := s ⟨h⟩
theorem ZW (s : Bx n -> g := by (intro h; refine Ol ?_; refine XO ?_; exact h.v)) : g := s ⟨h⟩
theorem ZT (s : Bx n -> g := by (intro h; refine GQ ?_; refine Aa4 ?_; exact h.v)) : g := s ⟨h⟩
theorem Tk (s : Bx n -> g := by (intro h; refine Vf ?_; refine Vi ?_; exact h.v)) : g := s ⟨h⟩
theorem Ua (s : Bx n -> g := by (intro h; refine N7 ?_; refine Jv ?_; exact h.v)) : g := s ⟨h⟩
theorem RA (s : Bx n -> g := by (intro h; refine C5 ?_; refine Jv ?_; exact h.v)) : g := s ⟨h⟩
theorem P5 (s : Bx n -> g := by (intro h; refine Gf ?_; refine WU ?_; exact h.v)) : g := s ⟨h⟩
theorem NP (s : Bx n -> g := by (intro h; refine Vc ?_; refine Rv ?_; exact h.v)) : g := s ⟨h⟩
theorem TQ (s : Bx n -> g := by (intro h; refine Vc ?_; refine SO ?_; exact h.v)) : g := s ⟨h⟩
theorem Sk (s : Bx n -> g := by (intro h; refine D7 ?_; refine K8 ?_; exact h.v)) : g := s ⟨h⟩
theorem Vw (s : Bx n -> g := by (intro h; refine D7 ?_; refine WU ?_; exact h.v)) : g := s ⟨h⟩
theorem Acj (s : Bx n -> g := by (intro h; refine Ol ?_; refine TX ?_; exact h.v)) : g := s ⟨h⟩
theorem ZX (s : Bx n -> g := by (intro h; refine Tt ?_; refine Jv ?_; exact h.v)) : g := s ⟨h⟩
theorem XQ (s : Bx n -> g := by (intro h; refine SX ?_; refine UM ?_; exact h.v)) : g := s ⟨h⟩
theorem To (s : Bx n -> g := by (intro h; refine Acj ?_; refine HG ?_; exact h.v)) : g := s ⟨h⟩
theorem ZD (s : Bx n -> g := by (intro h; refine SC ?_; refine E1 ?_; exact h.v)) : g := s ⟨h⟩
theorem Pi (s : Bx n -> g := by (intro h; refine Ha ?_; refine C5 ?_; exact h.v)) : g := s ⟨h⟩
theorem ZY (s : Bx n -> g := by (intro h; refine BE ?_; refine Z9 ?_; exact h.v)) : g := s ⟨h⟩
theorem Vt (s : Bx n -> g := by (intro h; refine N7 ?_; refine Tp ?_; exact h.v)) : g := s ⟨h⟩
theorem Aa1 (s : Bx n -> g := by (intro h; refine BE ?_; refine SL ?_; exact h.v)) : g := s ⟨h⟩
theorem YW (s : Bx n -> g := by (intro h; refine Aa1 ?_; refine BE ?_; exact h.v)) : g := s ⟨h⟩
theorem Z8 (s : Bx n -> g := by (intro h; refine TX ?_; refine E1 ?_; exact h.v)) : g := s ⟨h⟩
theorem XM (s : Bx n -> g := by (intro h; refine ZW ?_; refine O4 ?_; exact h.v)) : g := s ⟨h⟩
theorem Ve (s : Bx n -> g := by (intro h; refine K8 ?_; refine C5 ?_; exact h.v)) : g := s ⟨h⟩
theorem WX (s : Bx n -> g := by (intro h; refine Vg ?_; refine ZX ?_; exact h.v)) : g := s ⟨h⟩
theorem Aad (s : Bx n -> g := by (intro h; refine Vd ?_; refine D7 ?_; exact h.v)) : g := s ⟨h⟩
theorem XP (s : Bx n -> g := by (intro h; refine D7 ?_; refine Mi ?_; exact h.v)) : g := s ⟨h⟩
theorem Z0 (s : Bx n -> g := by (intro h; refine Jw ?_; refine ZD ?_; exact h.v)) : g := s ⟨h⟩
theorem Aab (s : Bx n -> g := by (intro h; refine YC ?_; refine VK ?_; exact h.v)) : g := s ⟨h⟩
theorem ZV (s : Bx n -> g := by (intro h; refine Tn ?_; refine Tn ?_; exact h.v)) : g := s ⟨h⟩
theorem Aax (s : Bx n -> g := by (intro h; refine GQ ?_; refine Z9 ?_; exact h.v)) : g := s ⟨h⟩
theorem ZF (s : Bx n -> g := by (intro h; refine NJ ?_; refine SO ?_; exact h.v)) : g := s ⟨h⟩
theorem QW (s : Bx n -> g := by (intro h; refine NJ ?_; refine Rv ?_; exact h.v)) : g := s ⟨h⟩
theorem TM (s : Bx n -> g := by (intro h; refine TX ?_; refine D7 ?_; exact h.v)) : g := s ⟨h⟩
theorem Vm (s : Bx n -> g := by (intro h; refine T0 ?_; refine Vi ?_; exact h.v)) : g := s ⟨h⟩
theorem Vq (s : Bx n -> g := by (intro h; refine Ab2 ?_; refine ZV ?_; exact h.v)) : g := s ⟨h⟩
theorem Ace (s : Bx n -> g := by (intro h; refine XI ?_; refine Jw ?_; exact h.v)) : g := s ⟨h⟩
theorem Yn (s : Bx n -> g := by (intro h; refine O7 ?_; refine ZT ?_; exact h.v)) : g := s ⟨h⟩
theorem Xz (s : Bx n -> g := by (intro h; refine BE ?_; refine VX ?_; exact h.v)) : g := s ⟨h⟩
theorem Aai (s : Bx n -> g := by (intro h; refine O6 ?_; refine BE ?_; exact h.v)) : g := s ⟨h⟩
theorem Vj (s : Bx n -> g := by (intro h; refine Xr ?_; refine D7 ?_; exact h.v)) : g := s ⟨h⟩
theorem Vr (s : Bx n -> g := by (intro h; refine Aak ?_; refine SL ?_; exact h.v)) : g := s ⟨h⟩
theorem XR (s : Bx n -> g := by (intro h; refine Aay ?_; refine O4 ?_; exact h.v)) : g := s ⟨h⟩
theorem XJ (s : Bx n -> g := by (intro h; refine PQ ?_; refine Tj ?_; exact h.v)) : g := s ⟨h⟩
theorem Uy (s : Bx n -> g := by (intro h; refine O6 ?_; refine Iu ?_; exact h.v)) : g := s ⟨h⟩
theorem Abr (s : Bx n -> g := by (intro h; refine Aab ?_; refine Rv ?_; exact h.v)) : g := s ⟨h⟩
theorem Ab7 (s : Bx n -> g := by (intro h; refine Ol ?_; refine SC ?_; exact h.v)) : g := s ⟨h⟩
theorem WJ (s : Bx n -> g := by (intro h; refine Gf ?_; refine Mi ?_; exact h.v)) : g := s ⟨h⟩
theorem SV (s : Bx n -> g := by (intro h; refine Jw ?_; refine Iu ?_; exact h.v)) : g := s ⟨h⟩
theorem Acp (s : Bx n -> g := by (intro h; refine RA ?_; refine Mi ?_; exact h.v)) : g := s ⟨h⟩
theorem Ux (s : Bx n -> g := by (intro h; refine Qv ?_; refine Nl ?_; exact h.v)) : g := s ⟨h⟩
theorem Vo (s : Bx n -> g := by (intro h; refine OS ?_; refine Iu ?_; exact h.v)) : g := s ⟨h⟩
theorem Ab5 (s : Bx n -> g := by (intro h; refine Aaa ?_; refine Aaa ?_; exact h.v)) : g := s ⟨h⟩
theorem Acl (s : Bx n -> g := by (intro h; refine Y0 ?_; refine VK ?_; exact h.v)) : g := s ⟨h⟩
theorem UC (s : Bx n -> g := by (intro h; refine Ace ?_; refine Jv ?_; exact h.v)) : g := s ⟨h⟩
theorem XW (s : Bx n -> g := by (intro h; refine XP ?_; refine UR ?_; exact h.v)) : g := s ⟨h⟩
theorem Vx (s : Bx n -> g := by (intro h; refine Gf ?_; refine IP ?_; exact h.v)) : g := s ⟨h⟩
theorem WW (s : Bx n -> g := by (intro h; refine Tq ?_; refine BE ?_; exact h.v)) : g := s ⟨h⟩
theorem ZQ (s : Bx n -> g := by (intro h; refine Vc ?_; refine Abr ?_; exact h.v)) : g := s ⟨h⟩
theorem ZP (s : Bx n -> g := by (intro h; refine Ab7 ?_; refine YN ?_; exact h.v)) : g := s ⟨h⟩
theorem ZJ (s : Bx n -> g := by (intro h; refine ZW ?_; refine ZY ?_; exact h.v)) : g := s ⟨h⟩
theorem Aco (s : Bx n -> g := by (intro h; refine ZM ?_; refine YW ?_; exact h.v)) : g := s ⟨h⟩
theorem Yb (s : Bx n -> g := by (intro h; refine Mp ?_; refine Tq ?_; exact h.v)) : g := s ⟨h⟩
theorem XE (s : Bx n -> g := by (intro h; refine ZM ?_; refine SL ?_; exact h.v)) : g := s ⟨h⟩
theorem WG (s : Bx n -> g := by (intro h; refine GQ ?_; refine Aai ?_; exact h.v)) : g := s ⟨h⟩
theorem WT (s : Bx n -> g := by (intro h; refine D7 ?_; refine UM ?_; exact h.v)) : g := s ⟨h⟩
theorem XF (s : Bx n -> g := by (intro h; refine VX ?_; refine D7 ?_; exact h.v)) : g := s ⟨h⟩
theorem W8 (s : Bx n -> g := by (intro h; refine XH ?_; refine UU rfl rfl rfl ?_; exact h.v)) : g := s ⟨h⟩
theorem Wx (s : Bx n -> g := by (intro h; refine Xr ?_; refine E1 ?_; exact h.v)) : g := s ⟨h⟩
theorem Zb (s : Bx n -> g := by (intro h; refine Ju ?_; refine Iu ?_; exact h.v)) : g := s ⟨h⟩
theorem Zj (s : Bx n -> g := by (intro h; refine GQ ?_; refine Aco ?_; exact h.v)) : g := s ⟨h⟩
theorem WF (s : Bx n -> g := by (intro h; refine Nl ?_; refine Iu ?_; exact h.v)) : g := s ⟨h⟩
theorem TF (s : Bx n -> g := by (intro h; refine O7 ?_; refine TQ ?_; exact h.v)) : g := s ⟨h⟩
theorem WM (s : Bx n -> g := by (intro h; refine Jw ?_; refine Z8 ?_; exact h.v)) : g := s ⟨h⟩
theorem XG (s : Bx n -> g := by (intro h; refine E1 ?_; refine E1 ?_; exact h.v)) : g := s ⟨h⟩
theorem Aa5 (s : Bx n -> g := by (intro h; refine SM ?_; refine D7 ?_; exact h.v)) : g := s ⟨h⟩
theorem YO (s : Bx n -> g := by (intro h; refine SM ?_; refine HG ?_; exact h.v)) : g := s ⟨h⟩
theorem V8 (s : Bx n -> g := by (intro h; refine Qv ?_; refine K8 ?_; exact h.v)) : g := s ⟨h⟩
theorem ZU (s : Bx n -> g := by (intro h; refine N7 ?_; refine Ua ?_; exact h.v)) : g := s ⟨h⟩
theorem Aag (s : Bx n -> g := by (intro h; refine Z3 ?_; refine E1 ?_; exact h.v)) : g := s ⟨h⟩
theorem Y3 (s : Bx n -> g := by (intro h; refine Vq ?_; refine Ua ?_; exact h.v)) : g := s ⟨h⟩
theorem Abp (s : Bx n -> g := by (intro h; refine Iu ?_; refine Tt ?_; exact h.v)) : g := s ⟨h⟩
theorem Aam (s : Bx n -> g := by (intro h; refine C5 ?_; refine Vt ?_; exact h.v)) : g := s ⟨h⟩
theorem ZK (s : Bx n -> g := by (intro h; refine VX ?_; refine E1 ?_; exact h.v)) : g := s ⟨h⟩
theorem Vn (s : Bx n -> g := by (intro h; refine C5 ?_; refine Re ?_; exact h.v)) : g := s ⟨h⟩
theorem Z6 (s : Bx n -> g := by (intro h; refine ZE ?_; refine Vi ?_; exact h.v)) : g := s ⟨h⟩
end
end Go.Proofs.YtjofelloaofooaaGreatDoor
