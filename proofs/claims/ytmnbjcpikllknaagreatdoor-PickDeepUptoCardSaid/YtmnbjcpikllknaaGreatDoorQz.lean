/- Short words for the walks. No condition. -/
import Derived.Test.YtmnbjcpikllknaaGreatDoorTy
import Derived.Test.YtmnbjcpikllknaaGreatDoorPf
set_option linter.unusedVariables false
namespace Go.Proofs.YtmnbjcpikllknaaGreatDoor
structure Bx (n : Prop) : Prop where
 v : n
theorem ws {p : Prop} (h : p := by (repeat (first | with_reducible exact WS.refl _ | refine WS.add ?_ rfl | exact WS.refl _))) : p := h
theorem tw {p : Prop} (h : p := by (refine ⟨_, hF, .hd (.refl _) ?_⟩; repeat (first | with_reducible exact WS.refl _ | refine WS.add ?_ rfl | exact WS.refl _))) : p := h
theorem th {p : Prop} (h : p := by (first | refine .hd (Ahm (by assumption)) ?_ | refine .hd (Ah0 (by assumption)) ?_ | refine .hd (Afj (by assumption)) ?_ | refine .hd (Agg (by assumption)) ?_); (repeat (first | with_reducible exact WS.refl _ | refine WS.add ?_ rfl | exact WS.refl _))) : p := h
theorem rt {p : Prop} (h : p := by (repeat (first | with_reducible refine Exit.sel_ret ?_ | with_reducible refine Exit.blk_ret ?_ | with_reducible refine Exit.jmp_ret ?_)); refine Jq rfl (by repeat' first | exact .nil | apply RV.tmp (v := .int _ _) rfl | apply RV.tmp (v := .bool _) rfl | apply RV.tmp (v := .str _) rfl | apply RV.tmp (v := .sl _ _ _) rfl | apply RV.tmp (v := .agg _) rfl | apply RV.tmp (v := ifD _) rfl | apply RV.tmp (v := Dv _ _ _) rfl | apply RV.tmp (v := GA _ _ _ _) rfl | apply RV.tmp (v := .float _ _) rfl | apply RV.tmp (v := .cplx _ _ _) rfl) ?_; first | exact ⟨_, _, .refl _, ok.wh, _, As hF, rfl, rfl⟩ | exact ⟨_, _, .refl _, WH.refl _, _, As hF, rfl⟩ | (refine ⟨_, _, ?_, ok.wh, _, As hF, rfl, rfl⟩; repeat' first | exact .refl _ | exact .zero _ _ _ | exact .nil _ | exact .nil | refine .tupC ?_ | refine .aggC ?_ | refine Wd.toE (.aggC ?_) (none_eq _) | refine .cons ?_ ?_) | (refine ⟨_, _, ?_, WH.refl _, _, As hF, rfl⟩; repeat' first | exact .refl _ | exact .zero _ _ _ | exact .nil _ | exact .nil | refine .tupC ?_ | refine .aggC ?_ | refine Wd.toE (.aggC ?_) (none_eq _) | refine .cons ?_ ?_)) : p := h
theorem oy {h : Heap} {O O' : List (Nat × AObj)} (ok : OK h O) (w : WO O O' := by (repeat' first | exact .refl _ | refine .keep ?_ | refine .drop ?_ | exact .nil)) : OK h O' := (w.spec ok).1
theorem hy {h : Heap} {O O' : List (Nat × AObj)} (ok : OK h O) (w : WO O O' := by (repeat' first | exact .refl _ | refine .keep ?_ | refine .drop ?_ | exact .nil)) : WH (Hp h O) (Hp h O') := (w.spec ok).2.2
theorem wy {n : Nat} {l l' : List (Nat × D)} {h : Heap} {O O' : List (Nat × AObj)} (ok : OK h O) (hl : WL n l l' := by (repeat' first | exact .refl _ | exact .zero _ _ _ | exact .nil _ | exact .nil | refine .tupC ?_ | refine .aggC ?_ | refine Wd.toE (.aggC ?_) (none_eq _) | refine .cons ?_ ?_)) (w : WO O O' := by (repeat' first | exact .refl _ | refine .keep ?_ | refine .drop ?_ | exact .nil)) : WS ⟨AK n l, Hp h O⟩ ⟨AK n l', Hp h O'⟩ := WS.mk' hl ok w
theorem okT {ρ β : Type} {P : Program} {g : FuncId} {ds : List D} {H : Heap} {X : Option ρ} {Q : ρ -> D -> Heap -> Prop} {f : ρ -> Option β} {G : β -> Prop} {R : D -> Heap -> Prop} (w : ∀ G : ρ -> Prop, OptP X G -> CallsA P g ds H fun d h' => ∃ r, G r /\ Q r d h') (hF : OptP (X.bind f) G) (hk : ∀ r d h', X = some r -> Q r d h' -> OptP (f r) G -> R d h') : CallsA P g ds H R := by
 obtain ⟨r0, hr, hF⟩ := Br hF;refine (w (fun r => r = r0) ⟨r0, hr, rfl⟩).mono ?_;rintro d h' ⟨r, rfl, hq⟩;exact hk _ _ _ hr hq hF
section
variable {g n : Prop} (h : n)
include h
theorem xr (s : Bx n -> g := by (intro h; (repeat (first | with_reducible refine Exit.sel_ret ?_ | with_reducible refine Exit.blk_ret ?_ | with_reducible refine Exit.jmp_ret ?_)); exact h.v)) : g := s ⟨h⟩
end
abbrev Zs (h : Heap) (O : List (Nat × AObj)) (n : Nat) (l : List (Nat × D)) (s : St) : Prop := OK h O /\ WS s ⟨AK n l, Hp h O⟩
theorem st_ {P : Program} {md : Nat -> Nat} {w : Bool} {ops : Array Oper} {os : List Oper} {k : St -> Prop} {n : Nat} {l : List (Nat × D)} {h : Heap} {t ty : TypeId} {pos : String} {af : Array Edge} {x y : Operand} {O : List (Nat × AObj)} {i off : Nat} {cs cs' : List D} {v : D} {c : Nat} (j : Nat) (ok : OK h O) (hi : i ≠ 0) (h2 : szD P t = some c) (hk : OK h (O.set j (i, .cells cs')) -> AS P md w ops os ⟨AK n l, Hp h (O.set j (i, .cells cs'))⟩ k) (hx : opL n l x = .ptr i off := by rfl) (hy : opL n l y = v := by rfl) (hj : O[j]? = some (i, .cells cs) := by rfl) (h1 : v.lay = true := by rfl) (hc : v.cells.length = c := by rfl) (h3 : Nat.ble (off + v.cells.length) cs.length = true := by rfl) (h4 : Gn cs off v.cells = cs' := by (dsimp only [Gn, D.cells, bi, bj, Nat.zero_add, Nat.reduceAdd, List.take_succ_cons, List.take_zero, List.drop_succ_cons, List.drop_zero, List.nil_append, List.cons_append] <;> exact rfl)) : AS P md w ops (⟨none, .store t x y, ty, pos, af, none⟩ :: os) ⟨AK n l, Hp h O⟩ k := Ga ok hx hy hj hi h1 (by rw [h2, hc]) h3 h4 hk
section
variable {g n : Prop} (h : n)
include h
theorem rp (s : Bx n -> g := by (intro h; (repeat (first | with_reducible refine Exit.sel_pan ?_ | with_reducible refine Exit.blk_pan ?_)); exact h.v)) : g := s ⟨h⟩
theorem rr (s : Bx n -> g := by (intro h; (repeat (first | with_reducible refine Exit.sel_ret ?_ | with_reducible refine Exit.blk_ret ?_ | with_reducible refine Exit.jmp_ret ?_)); refine Jq rfl (by repeat' first | exact .nil | apply RV.tmp (v := .int _ _) rfl | apply RV.tmp (v := .bool _) rfl | apply RV.tmp (v := .str _) rfl | apply RV.tmp (v := .sl _ _ _) rfl | apply RV.tmp (v := .agg _) rfl | apply RV.tmp (v := ifD _) rfl | apply RV.tmp (v := Dv _ _ _) rfl | apply RV.tmp (v := GA _ _ _ _) rfl | apply RV.tmp (v := .float _ _) rfl | apply RV.tmp (v := .cplx _ _ _) rfl) ?_; exact h.v)) : g := s ⟨h⟩
end
theorem cl {P : Program} {md : Nat -> Nat} {w : Bool} {ops : Array Oper} {os : List Oper} {k : St -> Prop} {n : Nat} {l : List (Nat × D)} {h : Heap} {d : Nat} {ty : TypeId} {pos : String} {af : Array Edge} {g : FuncId} {args : Array Operand} {ts : Array TypeId} {ds : List D} (hc : CallsA P g ds h fun v h' => AS P md w ops os ⟨AK n ((d, v) :: l), h'⟩ k) (hw : WdC (args.toList.map (opL n l)) ds := by (repeat' first | exact .refl _ | exact .zero _ _ _ | exact .nil _ | exact .nil | refine .tupC ?_ | refine .aggC ?_ | refine Wd.toE (.aggC ?_) (none_eq _) | refine .cons ?_ ?_)) : AS P md w ops (⟨some d, .call ⟨.value (.func g), args, ts⟩, ty, pos, af, none⟩ :: os) ⟨AK n l, h⟩ k := QR hc hw
section
variable {g n : Prop} (h : n)
include h
theorem A8 (s : Bx n -> g := by (intro h; refine KG ?_; exact h.v)) : g := s ⟨h⟩
theorem Gy (s : Bx n -> g := by (intro h; refine LB ?_; exact h.v)) : g := s ⟨h⟩
theorem Mr (s : Bx n -> g := by (intro h; refine CD (mdl []) ?_; exact h.v)) : g := s ⟨h⟩
theorem Ago (s : Bx n -> g := by (intro h; refine Ada ?_; exact h.v)) : g := s ⟨h⟩
theorem Aim (s : Bx n -> g := by (intro h; refine Ahr rfl rfl (by assumption) ?_; exact h.v)) : g := s ⟨h⟩
theorem Ail (s : Bx n -> g := by (intro h; refine Aic ?_; exact h.v)) : g := s ⟨h⟩
theorem Ahs (s : Bx n -> g := by (intro h; refine Aai rfl rfl (by assumption) ?_; exact h.v)) : g := s ⟨h⟩
theorem Fj (s : Bx n -> g := by (intro h; refine S_m (v := .int _ _) rfl ?_; exact h.v)) : g := s ⟨h⟩
theorem Kr (s : Bx n -> g := by (intro h; refine S_a (v := .int _ _) rfl ?_; exact h.v)) : g := s ⟨h⟩
theorem ZH (s : Bx n -> g := by (intro h; refine S_a (v := .bool _) rfl ?_; exact h.v)) : g := s ⟨h⟩
theorem Z3 (s : Bx n -> g := by (intro h; refine Rj ?_; exact h.v)) : g := s ⟨h⟩
theorem DD (s : Bx n -> g := by (intro h; refine Of ?_; exact h.v)) : g := s ⟨h⟩
theorem Do (s : Bx n -> g := by (intro h; refine S_m (v := .bool _) rfl ?_; exact h.v)) : g := s ⟨h⟩
theorem SN (s : Bx n -> g := by (intro h; refine S_m (v := .ptr _ _) rfl ?_; exact h.v)) : g := s ⟨h⟩
theorem W9 (s : Bx n -> g := by (intro h; refine Qf (v := .bool _) rfl (by assumption) rfl ?_; exact h.v)) : g := s ⟨h⟩
theorem Xy (s : Bx n -> g := by (intro h; refine Lb (v := .bool _) rfl (by assumption) rfl ?_; exact h.v)) : g := s ⟨h⟩
theorem KO (s : Bx n -> g := by (intro h; refine V4 ?_; exact h.v)) : g := s ⟨h⟩
theorem SV (s : Bx n -> g := by (intro h; refine Xw (v := .ptr _ _) rfl rfl ?_; exact h.v)) : g := s ⟨h⟩
theorem Ox (s : Bx n -> g := by (intro h; refine S_m (v := .sl _ _ _) rfl ?_; exact h.v)) : g := s ⟨h⟩
theorem YP (s : Bx n -> g := by (intro h; refine Dc rfl rfl (Aax ..) ?_; exact h.v)) : g := s ⟨h⟩
theorem PM (s : Bx n -> g := by (intro h; refine Dc rfl rfl (Adu ..) ?_; exact h.v)) : g := s ⟨h⟩
theorem WN (s : Bx n -> g := by (intro h; refine Ae4 rfl rfl ?_; exact h.v)) : g := s ⟨h⟩
theorem W3 (s : Bx n -> g := by (intro h; refine Dc rfl rfl (Acn ..) ?_; exact h.v)) : g := s ⟨h⟩
theorem Ahv (s : Bx n -> g := by (intro h; refine Yh ?_; exact h.v)) : g := s ⟨h⟩
theorem Ahq (s : Bx n -> g := by (intro h; simp only [Exit.sel, Exit.blk, Exit.jmp, if_true, if_false, reduceIte, Nat.reduceEqDiff, Nat.succ_ne_zero, Nat.zero_ne_one, Nat.one_ne_zero]; exact h.v)) : g := s ⟨h⟩
theorem Ahd (s : Bx n -> g := by (intro h; refine Aai rfl rfl rfl ?_; exact h.v)) : g := s ⟨h⟩
theorem NV (s : Bx n -> g := by (intro h; refine S_m (v := .str _) rfl ?_; exact h.v)) : g := s ⟨h⟩
theorem Aeh (s : Bx n -> g := by (intro h; refine De rfl Lm AF ?_; exact h.v)) : g := s ⟨h⟩
theorem O2 (s : Bx n -> g := by (intro h; refine Cv (j := 0) ok rfl rfl rfl (by assumption) (Bc (v := .int _ _) CW AF rfl) ?_; exact h.v)) : g := s ⟨h⟩
theorem XL (s : Bx n -> g := by (intro h; refine S_a (v := .sl _ _ _) rfl ?_; exact h.v)) : g := s ⟨h⟩
theorem XJ (s : Bx n -> g := by (intro h; refine Ae9 rfl (Acl _) ?_; exact h.v)) : g := s ⟨h⟩
theorem Ty (s : Bx n -> g := by (intro h; refine Dc rfl rfl (Ac3 ..) ?_; exact h.v)) : g := s ⟨h⟩
theorem Yw (s : Bx n -> g := by (intro h; refine Cv (j := 0) ok rfl rfl rfl (by assumption) (Bc (v := .str _) B0 AL rfl) ?_; exact h.v)) : g := s ⟨h⟩
theorem LG (s : Bx n -> g := by (intro h; refine Abf rfl Bo ?_; exact h.v)) : g := s ⟨h⟩
theorem Ahj (s : Bx n -> g := by (intro h; refine Adx rfl rfl ?_; exact h.v)) : g := s ⟨h⟩
theorem Ahh (s : Bx n -> g := by (intro h; refine S_m (v := .tup _) rfl ?_; exact h.v)) : g := s ⟨h⟩
theorem PL (s : Bx n -> g := by (intro h; refine Dc rfl rfl (ZW ..) ?_; exact h.v)) : g := s ⟨h⟩
theorem U7 (s : Bx n -> g := by (intro h; refine DP rfl Ep ?_; exact h.v)) : g := s ⟨h⟩
theorem NX (s : Bx n -> g := by (intro h; refine Dc rfl rfl Aby ?_; exact h.v)) : g := s ⟨h⟩
theorem Xn (s : Bx n -> g := by (intro h; refine Dc rfl rfl (Adr ..) ?_; exact h.v)) : g := s ⟨h⟩
theorem XZ (s : Bx n -> g := by (intro h; refine AW rfl (Bc Ro Hu rfl) ?_; exact h.v)) : g := s ⟨h⟩
theorem PK (s : Bx n -> g := by (intro h; refine Dc rfl rfl (Aco ..) ?_; exact h.v)) : g := s ⟨h⟩
theorem P3 (s : Bx n -> g := by (intro h; refine AW rfl (Bc B0 AL rfl) ?_; exact h.v)) : g := s ⟨h⟩
theorem Ah9 (s : Bx n -> g := by (intro h; refine De rfl Nd D2 ?_; exact h.v)) : g := s ⟨h⟩
theorem Abk (s : Bx n -> g := by (intro h; refine De rfl Qd AL ?_; exact h.v)) : g := s ⟨h⟩
theorem Xd (s : Bx n -> g := by (intro h; refine Dc rfl rfl (Adk ..) ?_; exact h.v)) : g := s ⟨h⟩
theorem Aee (s : Bx n -> g := by (intro h; refine DP rfl En ?_; exact h.v)) : g := s ⟨h⟩
theorem Ve (s : Bx n -> g := by (intro h; refine AW rfl (Bc CW AF rfl) ?_; exact h.v)) : g := s ⟨h⟩
theorem U8 (s : Bx n -> g := by (intro h; refine S_a (v := .str _) rfl ?_; exact h.v)) : g := s ⟨h⟩
theorem U3 (s : Bx n -> g := by (intro h; refine Cv (j := 1) ok rfl rfl rfl (by assumption) (Bc (v := .int _ _) CW AF rfl) ?_; exact h.v)) : g := s ⟨h⟩
theorem Vb (s : Bx n -> g := by (intro h; refine De rfl J0 AL ?_; exact h.v)) : g := s ⟨h⟩
theorem Aij (s : Bx n -> g := by (intro h; refine Cv (j := 2) ok rfl rfl rfl (by assumption) (Bc (v := .sl _ _ _) RG D2 rfl) ?_; exact h.v)) : g := s ⟨h⟩
theorem Z4 (s : Bx n -> g := by (intro h; refine De rfl PS AL ?_; exact h.v)) : g := s ⟨h⟩
theorem Xa (s : Bx n -> g := by (intro h; refine By rfl MU Hu rfl ?_; exact h.v)) : g := s ⟨h⟩
theorem V3 (s : Bx n -> g := by (intro h; refine Cv (j := 1) ok rfl rfl rfl (by assumption) (Bc (v := .str _) B0 AL rfl) ?_; exact h.v)) : g := s ⟨h⟩
theorem Vy (s : Bx n -> g := by (intro h; refine S_m (v := .fn (.func _) _ _) rfl ?_; exact h.v)) : g := s ⟨h⟩
theorem Wu (s : Bx n -> g := by (intro h; refine De rfl QO H0 ?_; exact h.v)) : g := s ⟨h⟩
theorem Afa (s : Bx n -> g := by (intro h; refine Cv (j := 5) ok rfl rfl rfl (by assumption) (Bc (v := .sl _ _ _) GL DK rfl) ?_; exact h.v)) : g := s ⟨h⟩
theorem YG (s : Bx n -> g := by (intro h; refine De rfl Qy CQ ?_; exact h.v)) : g := s ⟨h⟩
theorem Y3 (s : Bx n -> g := by (intro h; refine De rfl P0 JI ?_; exact h.v)) : g := s ⟨h⟩
theorem XN (s : Bx n -> g := by (intro h; refine AW rfl (Bc N4 DI rfl) ?_; exact h.v)) : g := s ⟨h⟩
theorem YN (s : Bx n -> g := by (intro h; refine DP rfl HB ?_; exact h.v)) : g := s ⟨h⟩
theorem Ag6 (s : Bx n -> g := by (intro h; refine By rfl So Hu rfl ?_; exact h.v)) : g := s ⟨h⟩
theorem Zq (s : Bx n -> g := by (intro h; refine By rfl Nr AG rfl ?_; exact h.v)) : g := s ⟨h⟩
theorem Aes (s : Bx n -> g := by (intro h; refine Cv (j := 0) ok rfl rfl rfl (by assumption) (Bc (v := .sl _ _ _) Lk H0 rfl) ?_; exact h.v)) : g := s ⟨h⟩
theorem Zu (s : Bx n -> g := by (intro h; refine By rfl Ss DI rfl ?_; exact h.v)) : g := s ⟨h⟩
theorem Aag (s : Bx n -> g := by (intro h; refine De rfl Iq AL ?_; exact h.v)) : g := s ⟨h⟩
theorem Adc (s : Bx n -> g := by (intro h; refine S_a (v := Dv _ _ _) rfl ?_; exact h.v)) : g := s ⟨h⟩
theorem Aa2 (s : Bx n -> g := by (intro h; refine AW rfl (Bc Hi CQ rfl) ?_; exact h.v)) : g := s ⟨h⟩
theorem Adn (s : Bx n -> g := by (intro h; refine S_m (v := Dv _ _ _) rfl ?_; exact h.v)) : g := s ⟨h⟩
theorem Abm (s : Bx n -> g := by (intro h; refine By rfl J0 AL rfl ?_; exact h.v)) : g := s ⟨h⟩
theorem Ad1 (s : Bx n -> g := by (intro h; refine De rfl PY AF ?_; exact h.v)) : g := s ⟨h⟩
theorem Ad8 (s : Bx n -> g := by (intro h; refine De rfl LV HW ?_; exact h.v)) : g := s ⟨h⟩
theorem Ad2 (s : Bx n -> g := by (intro h; refine De rfl Sd DI ?_; exact h.v)) : g := s ⟨h⟩
theorem Ad6 (s : Bx n -> g := by (intro h; refine Cv (j := 0) ok rfl rfl rfl (by assumption) (Bc (v := Dv _ _ _) OD JI rfl) ?_; exact h.v)) : g := s ⟨h⟩
theorem Ad5 (s : Bx n -> g := by (intro h; refine By rfl RO AJ rfl ?_; exact h.v)) : g := s ⟨h⟩
theorem Ad0 (s : Bx n -> g := by (intro h; refine By rfl Iq AL rfl ?_; exact h.v)) : g := s ⟨h⟩
theorem Agq (s : Bx n -> g := by (intro h; refine Cv (j := 0) ok rfl rfl rfl (by assumption) (Bc (v := .bool _) N4 DI rfl) ?_; exact h.v)) : g := s ⟨h⟩
theorem Ag4 (s : Bx n -> g := by (intro h; refine Cv (j := 2) ok rfl rfl rfl (by assumption) (Bc (v := .bool _) N4 DI rfl) ?_; exact h.v)) : g := s ⟨h⟩
theorem Ahb (s : Bx n -> g := by (intro h; refine Cv (j := 1) ok rfl rfl rfl (by assumption) (Bc (v := Dv _ _ _) OD JI rfl) ?_; exact h.v)) : g := s ⟨h⟩
theorem Ag8 (s : Bx n -> g := by (intro h; refine Cv (j := 0) ok rfl rfl rfl (by assumption) (Bc (v := .ptr _ _) LI JF rfl) ?_; exact h.v)) : g := s ⟨h⟩
theorem Ag0 (s : Bx n -> g := by (intro h; refine Cv (j := 1) ok rfl rfl rfl (by assumption) (Bc (v := .ptr _ _) LI JF rfl) ?_; exact h.v)) : g := s ⟨h⟩
theorem Ag3 (s : Bx n -> g := by (intro h; refine Cv (j := 3) ok rfl rfl rfl (by assumption) (Bc (v := .sl _ _ _) GL DK rfl) ?_; exact h.v)) : g := s ⟨h⟩
theorem Agu (s : Bx n -> g := by (intro h; refine Cv (j := 1) ok rfl rfl rfl (by assumption) (Bc (v := Dv _ _ _) EH B2 rfl) ?_; exact h.v)) : g := s ⟨h⟩
theorem BG (s : Bx n -> g := by (intro h; refine Gy ?_; refine Mr ?_; exact h.v)) : g := s ⟨h⟩
theorem Ek (s : Bx n -> g := by (intro h; refine Aim ?_; refine Ail ?_; exact h.v)) : g := s ⟨h⟩
theorem Aa4 (s : Bx n -> g := by (intro h; refine Ahs ?_; refine Ago ?_; exact h.v)) : g := s ⟨h⟩
theorem Bs (s : Bx n -> g := by (intro h; refine A8 ?_; refine Ek ?_; exact h.v)) : g := s ⟨h⟩
theorem PO (s : Bx n -> g := by (intro h; refine Aa4 ?_; refine Aa4 ?_; exact h.v)) : g := s ⟨h⟩
theorem F1 (s : Bx n -> g := by (intro h; refine ZH ?_; refine A8 ?_; exact h.v)) : g := s ⟨h⟩
theorem IL (s : Bx n -> g := by (intro h; refine Kr ?_; refine A8 ?_; exact h.v)) : g := s ⟨h⟩
theorem HQ (s : Bx n -> g := by (intro h; refine BG ?_; refine Fj ?_; exact h.v)) : g := s ⟨h⟩
theorem U5 (s : Bx n -> g := by (intro h; refine W9 ?_; refine A8 ?_; exact h.v)) : g := s ⟨h⟩
theorem Sv (s : Bx n -> g := by (intro h; refine Xy ?_; refine A8 ?_; exact h.v)) : g := s ⟨h⟩
theorem GB (s : Bx n -> g := by (intro h; refine F1 ?_; refine Z3 ?_; exact h.v)) : g := s ⟨h⟩
theorem ID (s : Bx n -> g := by (intro h; refine A8 ?_; refine Gy ?_; exact h.v)) : g := s ⟨h⟩
theorem Vf (s : Bx n -> g := by (intro h; refine IL ?_; refine Z3 ?_; exact h.v)) : g := s ⟨h⟩
theorem Ag1 (s : Bx n -> g := by (intro h; refine Fj ?_; refine A8 ?_; exact h.v)) : g := s ⟨h⟩
theorem JR (s : Bx n -> g := by (intro h; refine PO ?_; refine PO ?_; exact h.v)) : g := s ⟨h⟩
theorem Rg (s : Bx n -> g := by (intro h; refine Fj ?_; refine Bs ?_; exact h.v)) : g := s ⟨h⟩
theorem Fm (s : Bx n -> g := by (intro h; refine Ahv ?_; refine Ahq ?_; exact h.v)) : g := s ⟨h⟩
theorem Agz (s : Bx n -> g := by (intro h; refine Ahd ?_; refine Ago ?_; exact h.v)) : g := s ⟨h⟩
theorem Ov (s : Bx n -> g := by (intro h; refine SN ?_; refine SV ?_; exact h.v)) : g := s ⟨h⟩
theorem Iy (s : Bx n -> g := by (intro h; refine A8 ?_; refine Sv ?_; exact h.v)) : g := s ⟨h⟩
theorem Ho (s : Bx n -> g := by (intro h; refine A8 ?_; refine U5 ?_; exact h.v)) : g := s ⟨h⟩
theorem GH (s : Bx n -> g := by (intro h; refine A8 ?_; refine BG ?_; exact h.v)) : g := s ⟨h⟩
theorem I0 (s : Bx n -> g := by (intro h; refine BG ?_; refine Ox ?_; exact h.v)) : g := s ⟨h⟩
theorem MA (s : Bx n -> g := by (intro h; refine Ek ?_; refine Rg ?_; exact h.v)) : g := s ⟨h⟩
theorem SS (s : Bx n -> g := by (intro h; refine PO ?_; refine Aa4 ?_; exact h.v)) : g := s ⟨h⟩
theorem Ou (s : Bx n -> g := by (intro h; refine DD ?_; refine Gy ?_; exact h.v)) : g := s ⟨h⟩
theorem KM (s : Bx n -> g := by (intro h; refine Ag1 ?_; refine KO ?_; exact h.v)) : g := s ⟨h⟩
theorem Aik (s : Bx n -> g := by (intro h; refine BG ?_; refine W3 ?_; exact h.v)) : g := s ⟨h⟩
theorem IG (s : Bx n -> g := by (intro h; refine Aik ?_; refine ID ?_; exact h.v)) : g := s ⟨h⟩
theorem Ahn (s : Bx n -> g := by (intro h; refine Mr ?_; refine PM ?_; exact h.v)) : g := s ⟨h⟩
theorem Ml (s : Bx n -> g := by (intro h; refine Ahn ?_; refine Ag1 ?_; exact h.v)) : g := s ⟨h⟩
theorem IC (s : Bx n -> g := by (intro h; refine SN ?_; refine A8 ?_; exact h.v)) : g := s ⟨h⟩
theorem KN (s : Bx n -> g := by (intro h; refine BG ?_; refine GB ?_; exact h.v)) : g := s ⟨h⟩
theorem LO (s : Bx n -> g := by (intro h; refine BG ?_; refine Vf ?_; exact h.v)) : g := s ⟨h⟩
theorem KD (s : Bx n -> g := by (intro h; refine A8 ?_; refine Z3 ?_; exact h.v)) : g := s ⟨h⟩
theorem MN (s : Bx n -> g := by (intro h; refine Gy ?_; refine HQ ?_; exact h.v)) : g := s ⟨h⟩
theorem Mz (s : Bx n -> g := by (intro h; refine Kr ?_; refine IL ?_; exact h.v)) : g := s ⟨h⟩
theorem KW (s : Bx n -> g := by (intro h; refine BG ?_; refine NV ?_; exact h.v)) : g := s ⟨h⟩
theorem XD (s : Bx n -> g := by (intro h; refine Agz ?_; refine Agz ?_; exact h.v)) : g := s ⟨h⟩
theorem Ku (s : Bx n -> g := by (intro h; refine BG ?_; refine F1 ?_; exact h.v)) : g := s ⟨h⟩
theorem X7 (s : Bx n -> g := by (intro h; refine Ov ?_; refine Aeh ?_; exact h.v)) : g := s ⟨h⟩
theorem YM (s : Bx n -> g := by (intro h; refine Ou ?_; refine KO ?_; exact h.v)) : g := s ⟨h⟩
theorem Mi (s : Bx n -> g := by (intro h; refine PO ?_; refine Sv ?_; exact h.v)) : g := s ⟨h⟩
theorem Z1 (s : Bx n -> g := by (intro h; refine Ahj ?_; refine Ago ?_; exact h.v)) : g := s ⟨h⟩
theorem Agw (s : Bx n -> g := by (intro h; refine WN ?_; refine WN ?_; exact h.v)) : g := s ⟨h⟩
theorem Mo (s : Bx n -> g := by (intro h; refine BG ?_; refine SN ?_; exact h.v)) : g := s ⟨h⟩
theorem W4 (s : Bx n -> g := by (intro h; refine Ahh ?_; refine Agw ?_; exact h.v)) : g := s ⟨h⟩
theorem Mq (s : Bx n -> g := by (intro h; refine Kr ?_; refine Vf ?_; exact h.v)) : g := s ⟨h⟩
theorem Ot (s : Bx n -> g := by (intro h; refine HQ ?_; refine Fj ?_; exact h.v)) : g := s ⟨h⟩
theorem SW (s : Bx n -> g := by (intro h; refine X7 ?_; refine O2 ?_; exact h.v)) : g := s ⟨h⟩
theorem Ae1 (s : Bx n -> g := by (intro h; refine SN ?_; refine Bs ?_; exact h.v)) : g := s ⟨h⟩
theorem Va (s : Bx n -> g := by (intro h; refine Mr ?_; refine Fj ?_; exact h.v)) : g := s ⟨h⟩
theorem RS (s : Bx n -> g := by (intro h; refine Ty ?_; refine A8 ?_; exact h.v)) : g := s ⟨h⟩
theorem Agx (s : Bx n -> g := by (intro h; refine SV ?_; refine Bs ?_; exact h.v)) : g := s ⟨h⟩
theorem YF (s : Bx n -> g := by (intro h; refine MA ?_; refine YP ?_; exact h.v)) : g := s ⟨h⟩
theorem O5 (s : Bx n -> g := by (intro h; refine SS ?_; refine U5 ?_; exact h.v)) : g := s ⟨h⟩
theorem PN (s : Bx n -> g := by (intro h; refine BG ?_; refine IL ?_; exact h.v)) : g := s ⟨h⟩
theorem Acb (s : Bx n -> g := by (intro h; refine Ae1 ?_; refine Agx ?_; exact h.v)) : g := s ⟨h⟩
theorem Wh (s : Bx n -> g := by (intro h; refine YP ?_; refine Do ?_; exact h.v)) : g := s ⟨h⟩
theorem Aid (s : Bx n -> g := by (intro h; refine BG ?_; refine YP ?_; exact h.v)) : g := s ⟨h⟩
theorem Tx (s : Bx n -> g := by (intro h; refine Aid ?_; refine F1 ?_; exact h.v)) : g := s ⟨h⟩
theorem XB (s : Bx n -> g := by (intro h; refine Do ?_; refine A8 ?_; exact h.v)) : g := s ⟨h⟩
theorem Qm (s : Bx n -> g := by (intro h; refine PO ?_; refine U5 ?_; exact h.v)) : g := s ⟨h⟩
theorem Xs (s : Bx n -> g := by (intro h; refine W4 ?_; refine WN ?_; exact h.v)) : g := s ⟨h⟩
theorem RF (s : Bx n -> g := by (intro h; refine YP ?_; refine A8 ?_; exact h.v)) : g := s ⟨h⟩
theorem R1 (s : Bx n -> g := by (intro h; refine W3 ?_; refine A8 ?_; exact h.v)) : g := s ⟨h⟩
theorem QT (s : Bx n -> g := by (intro h; refine KO ?_; refine Gy ?_; exact h.v)) : g := s ⟨h⟩
theorem Rf (s : Bx n -> g := by (intro h; refine Ah9 ?_; refine A8 ?_; exact h.v)) : g := s ⟨h⟩
theorem QQ (s : Bx n -> g := by (intro h; refine F1 ?_; refine BG ?_; exact h.v)) : g := s ⟨h⟩
theorem Q0 (s : Bx n -> g := by (intro h; refine JR ?_; refine U5 ?_; exact h.v)) : g := s ⟨h⟩
theorem Q1 (s : Bx n -> g := by (intro h; refine XL ?_; refine A8 ?_; exact h.v)) : g := s ⟨h⟩
theorem Abv (s : Bx n -> g := by (intro h; refine Ox ?_; refine Bs ?_; exact h.v)) : g := s ⟨h⟩
theorem Ac8 (s : Bx n -> g := by (intro h; refine PM ?_; refine IL ?_; exact h.v)) : g := s ⟨h⟩
theorem RQ (s : Bx n -> g := by (intro h; refine SS ?_; refine Sv ?_; exact h.v)) : g := s ⟨h⟩
theorem Xf (s : Bx n -> g := by (intro h; refine Gy ?_; refine BG ?_; exact h.v)) : g := s ⟨h⟩
theorem SM (s : Bx n -> g := by (intro h; refine Ek ?_; refine Acb ?_; exact h.v)) : g := s ⟨h⟩
theorem SX (s : Bx n -> g := by (intro h; refine JR ?_; refine JR ?_; exact h.v)) : g := s ⟨h⟩
theorem Th (s : Bx n -> g := by (intro h; refine DD ?_; refine Ml ?_; exact h.v)) : g := s ⟨h⟩
theorem Ah4 (s : Bx n -> g := by (intro h; refine Bs ?_; refine Yw ?_; exact h.v)) : g := s ⟨h⟩
theorem T6 (s : Bx n -> g := by (intro h; refine Ah4 ?_; refine Bs ?_; exact h.v)) : g := s ⟨h⟩
theorem S7 (s : Bx n -> g := by (intro h; refine SV ?_; refine Aeh ?_; exact h.v)) : g := s ⟨h⟩
theorem TJ (s : Bx n -> g := by (intro h; refine YF ?_; refine Iy ?_; exact h.v)) : g := s ⟨h⟩
theorem Uy (s : Bx n -> g := by (intro h; refine XD ?_; refine XD ?_; exact h.v)) : g := s ⟨h⟩
theorem U9 (s : Bx n -> g := by (intro h; refine Z1 ?_; refine Z1 ?_; exact h.v)) : g := s ⟨h⟩
theorem Adg (s : Bx n -> g := by (intro h; refine Bs ?_; refine XJ ?_; exact h.v)) : g := s ⟨h⟩
theorem Vz (s : Bx n -> g := by (intro h; refine HQ ?_; refine Vf ?_; exact h.v)) : g := s ⟨h⟩
theorem Vc (s : Bx n -> g := by (intro h; refine DD ?_; refine BG ?_; exact h.v)) : g := s ⟨h⟩
theorem U2 (s : Bx n -> g := by (intro h; refine Aij ?_; refine A8 ?_; exact h.v)) : g := s ⟨h⟩
theorem Aen (s : Bx n -> g := by (intro h; refine HQ ?_; refine IL ?_; exact h.v)) : g := s ⟨h⟩
theorem Abd (s : Bx n -> g := by (intro h; refine Bs ?_; refine YP ?_; exact h.v)) : g := s ⟨h⟩
theorem Aac (s : Bx n -> g := by (intro h; refine A8 ?_; refine KO ?_; exact h.v)) : g := s ⟨h⟩
theorem U4 (s : Bx n -> g := by (intro h; refine Ek ?_; refine Abv ?_; exact h.v)) : g := s ⟨h⟩
theorem Ad4 (s : Bx n -> g := by (intro h; refine Ov ?_; refine Abk ?_; exact h.v)) : g := s ⟨h⟩
theorem Vl (s : Bx n -> g := by (intro h; refine YM ?_; refine Gy ?_; exact h.v)) : g := s ⟨h⟩
theorem VD (s : Bx n -> g := by (intro h; refine U5 ?_; refine A8 ?_; exact h.v)) : g := s ⟨h⟩
theorem Vq (s : Bx n -> g := by (intro h; refine Sv ?_; refine A8 ?_; exact h.v)) : g := s ⟨h⟩
theorem WY (s : Bx n -> g := by (intro h; refine Mz ?_; refine MN ?_; exact h.v)) : g := s ⟨h⟩
theorem V5 (s : Bx n -> g := by (intro h; refine Aa4 ?_; refine Sv ?_; exact h.v)) : g := s ⟨h⟩
theorem Wy (s : Bx n -> g := by (intro h; refine DD ?_; refine KO ?_; exact h.v)) : g := s ⟨h⟩
theorem V0 (s : Bx n -> g := by (intro h; refine Va ?_; refine Ac8 ?_; exact h.v)) : g := s ⟨h⟩
theorem VI (s : Bx n -> g := by (intro h; refine Kr ?_; refine GB ?_; exact h.v)) : g := s ⟨h⟩
theorem VH (s : Bx n -> g := by (intro h; refine Aee ?_; refine KM ?_; exact h.v)) : g := s ⟨h⟩
theorem XO (s : Bx n -> g := by (intro h; refine I0 ?_; refine U7 ?_; exact h.v)) : g := s ⟨h⟩
theorem W7 (s : Bx n -> g := by (intro h; refine DD ?_; refine KN ?_; exact h.v)) : g := s ⟨h⟩
theorem Xp (s : Bx n -> g := by (intro h; refine Bs ?_; refine XB ?_; exact h.v)) : g := s ⟨h⟩
theorem Xj (s : Bx n -> g := by (intro h; refine XJ ?_; refine Do ?_; exact h.v)) : g := s ⟨h⟩
theorem XG (s : Bx n -> g := by (intro h; refine YM ?_; refine Aen ?_; exact h.v)) : g := s ⟨h⟩
theorem Xo (s : Bx n -> g := by (intro h; refine Ox ?_; refine Fj ?_; exact h.v)) : g := s ⟨h⟩
theorem WJ (s : Bx n -> g := by (intro h; refine BG ?_; refine Kr ?_; exact h.v)) : g := s ⟨h⟩
theorem WC (s : Bx n -> g := by (intro h; refine HQ ?_; refine Wh ?_; exact h.v)) : g := s ⟨h⟩
theorem WK (s : Bx n -> g := by (intro h; refine Xs ?_; refine XL ?_; exact h.v)) : g := s ⟨h⟩
theorem WU (s : Bx n -> g := by (intro h; refine NV ?_; refine Bs ?_; exact h.v)) : g := s ⟨h⟩
theorem Yv (s : Bx n -> g := by (intro h; refine Aeh ?_; refine Bs ?_; exact h.v)) : g := s ⟨h⟩
theorem YD (s : Bx n -> g := by (intro h; refine XJ ?_; refine A8 ?_; exact h.v)) : g := s ⟨h⟩
theorem Ze (s : Bx n -> g := by (intro h; refine BG ?_; refine SW ?_; exact h.v)) : g := s ⟨h⟩
theorem YH (s : Bx n -> g := by (intro h; refine Aa4 ?_; refine U5 ?_; exact h.v)) : g := s ⟨h⟩
theorem YL (s : Bx n -> g := by (intro h; refine BG ?_; refine Ov ?_; exact h.v)) : g := s ⟨h⟩
theorem Ye (s : Bx n -> g := by (intro h; refine Bs ?_; refine Xn ?_; exact h.v)) : g := s ⟨h⟩
theorem XQ (s : Bx n -> g := by (intro h; refine PL ?_; refine Bs ?_; exact h.v)) : g := s ⟨h⟩
theorem Zv (s : Bx n -> g := by (intro h; refine DD ?_; refine LO ?_; exact h.v)) : g := s ⟨h⟩
theorem Ad3 (s : Bx n -> g := by (intro h; refine Aes ?_; refine DP rfl Hm ?_; exact h.v)) : g := s ⟨h⟩
theorem Ad9 (s : Bx n -> g := by (intro h; refine I0 ?_; refine DP rfl CT ?_; exact h.v)) : g := s ⟨h⟩
theorem ZL (s : Bx n -> g := by (intro h; refine Ad4 ?_; refine Yw ?_; exact h.v)) : g := s ⟨h⟩
theorem Zp (s : Bx n -> g := by (intro h; refine W3 ?_; refine Do ?_; exact h.v)) : g := s ⟨h⟩
theorem Zl (s : Bx n -> g := by (intro h; refine Bs ?_; refine Rg ?_; exact h.v)) : g := s ⟨h⟩
theorem Zm (s : Bx n -> g := by (intro h; refine MA ?_; refine Xd ?_; exact h.v)) : g := s ⟨h⟩
theorem Zy (s : Bx n -> g := by (intro h; refine Fj ?_; refine PM ?_; exact h.v)) : g := s ⟨h⟩
theorem Zn (s : Bx n -> g := by (intro h; refine Adg ?_; refine Iy ?_; exact h.v)) : g := s ⟨h⟩
theorem ZB (s : Bx n -> g := by (intro h; refine Z4 ?_; refine Yw ?_; exact h.v)) : g := s ⟨h⟩
theorem ZF (s : Bx n -> g := by (intro h; refine F1 ?_; refine Xf ?_; exact h.v)) : g := s ⟨h⟩
theorem Zi (s : Bx n -> g := by (intro h; refine Aac ?_; refine Tx ?_; exact h.v)) : g := s ⟨h⟩
theorem Zt (s : Bx n -> g := by (intro h; refine Do ?_; refine Do ?_; exact h.v)) : g := s ⟨h⟩
theorem Ads (s : Bx n -> g := by (intro h; refine HQ ?_; refine RS ?_; exact h.v)) : g := s ⟨h⟩
theorem Zj (s : Bx n -> g := by (intro h; refine KW ?_; refine Fj ?_; exact h.v)) : g := s ⟨h⟩
theorem Zw (s : Bx n -> g := by (intro h; refine ID ?_; refine BG ?_; exact h.v)) : g := s ⟨h⟩
theorem Zr (s : Bx n -> g := by (intro h; refine YP ?_; refine GB ?_; exact h.v)) : g := s ⟨h⟩
theorem Zz (s : Bx n -> g := by (intro h; refine Xn ?_; refine Do ?_; exact h.v)) : g := s ⟨h⟩
theorem Zo (s : Bx n -> g := by (intro h; refine Afa ?_; refine A8 ?_; exact h.v)) : g := s ⟨h⟩
theorem Zk (s : Bx n -> g := by (intro h; refine XL ?_; refine KD ?_; exact h.v)) : g := s ⟨h⟩
theorem ZE (s : Bx n -> g := by (intro h; refine Abd ?_; refine Ho ?_; exact h.v)) : g := s ⟨h⟩
theorem Aia (s : Bx n -> g := by (intro h; refine Bs ?_; refine XZ ?_; exact h.v)) : g := s ⟨h⟩
theorem ZG (s : Bx n -> g := by (intro h; refine Aia ?_; refine Bs ?_; exact h.v)) : g := s ⟨h⟩
theorem ZA (s : Bx n -> g := by (intro h; refine Ag6 ?_; refine XZ ?_; exact h.v)) : g := s ⟨h⟩
end
end Go.Proofs.YtmnbjcpikllknaaGreatDoor
