/- Short words for the walks. No condition. -/
import Derived.Test.YtjofelloaofooaaGreatDoorTy
import Derived.Test.YtjofelloaofooaaGreatDoorPf
set_option linter.unusedVariables false
namespace Go.Proofs.YtjofelloaofooaaGreatDoor
structure Bx (n : Prop) : Prop where
 v : n
theorem ws {p : Prop} (h : p := by (repeat (first | with_reducible exact WS.refl _ | refine WS.add ?_ rfl | exact WS.refl _))) : p := h
theorem tw {p : Prop} (h : p := by (refine ⟨_, hF, .hd (.refl _) ?_⟩; repeat (first | with_reducible exact WS.refl _ | refine WS.add ?_ rfl | exact WS.refl _))) : p := h
theorem th {p : Prop} (h : p := by (first | refine .hd (Y5 (by assumption)) ?_ | refine .hd (Z5 (by assumption)) ?_ | refine .hd (Xl (by assumption)) ?_ | refine .hd (XM (by assumption)) ?_); (repeat (first | with_reducible exact WS.refl _ | refine WS.add ?_ rfl | exact WS.refl _))) : p := h
theorem rt {p : Prop} (h : p := by (repeat (first | with_reducible refine Exit.sel_ret ?_ | with_reducible refine Exit.blk_ret ?_ | with_reducible refine Exit.jmp_ret ?_)); refine NR rfl (by repeat' first | exact .nil | apply RV.tmp (v := .int _ _) rfl | apply RV.tmp (v := .bool _) rfl | apply RV.tmp (v := .str _) rfl | apply RV.tmp (v := .sl _ _ _) rfl | apply RV.tmp (v := .agg _) rfl | apply RV.tmp (v := ifD _) rfl | apply RV.tmp (v := EC _ _ _) rfl | apply RV.tmp (v := YJ _ _ _ _) rfl | apply RV.tmp (v := .float _ _) rfl | apply RV.tmp (v := .cplx _ _ _) rfl) ?_; first | exact ⟨_, _, .refl _, ok.wh, _, AP hF, rfl, rfl⟩ | exact ⟨_, _, .refl _, WH.refl _, _, AP hF, rfl⟩ | (refine ⟨_, _, ?_, ok.wh, _, AP hF, rfl, rfl⟩; repeat' first | exact .refl _ | exact .zero _ _ _ | exact .nil _ | exact .nil | refine .tupC ?_ | refine .aggC ?_ | refine Wd.toE (.aggC ?_) (none_eq _) | refine .cons ?_ ?_) | (refine ⟨_, _, ?_, WH.refl _, _, AP hF, rfl⟩; repeat' first | exact .refl _ | exact .zero _ _ _ | exact .nil _ | exact .nil | refine .tupC ?_ | refine .aggC ?_ | refine Wd.toE (.aggC ?_) (none_eq _) | refine .cons ?_ ?_)) : p := h
theorem oy {h : Heap} {O O' : List (Nat × AObj)} (ok : OK h O) (w : WO O O' := by (repeat' first | exact .refl _ | refine .keep ?_ | refine .drop ?_ | exact .nil)) : OK h O' := (w.spec ok).1
theorem hy {h : Heap} {O O' : List (Nat × AObj)} (ok : OK h O) (w : WO O O' := by (repeat' first | exact .refl _ | refine .keep ?_ | refine .drop ?_ | exact .nil)) : WH (Hp h O) (Hp h O') := (w.spec ok).2.2
theorem wy {n : Nat} {l l' : List (Nat × D)} {h : Heap} {O O' : List (Nat × AObj)} (ok : OK h O) (hl : WL n l l' := by (repeat' first | exact .refl _ | exact .zero _ _ _ | exact .nil _ | exact .nil | refine .tupC ?_ | refine .aggC ?_ | refine Wd.toE (.aggC ?_) (none_eq _) | refine .cons ?_ ?_)) (w : WO O O' := by (repeat' first | exact .refl _ | refine .keep ?_ | refine .drop ?_ | exact .nil)) : WS ⟨AH n l, Hp h O⟩ ⟨AH n l', Hp h O'⟩ := WS.mk' hl ok w
theorem okT {ρ β : Type} {P : Program} {g : FuncId} {ds : List D} {H : Heap} {X : Option ρ} {Q : ρ -> D -> Heap -> Prop} {f : ρ -> Option β} {G : β -> Prop} {R : D -> Heap -> Prop} (w : ∀ G : ρ -> Prop, OptP X G -> CallsA P g ds H fun d h' => ∃ r, G r /\ Q r d h') (hF : OptP (X.bind f) G) (hk : ∀ r d h', X = some r -> Q r d h' -> OptP (f r) G -> R d h') : CallsA P g ds H R := by
 obtain ⟨r0, hr, hF⟩ := Bp hF;refine (w (fun r => r = r0) ⟨r0, hr, rfl⟩).mono ?_;rintro d h' ⟨r, rfl, hq⟩;exact hk _ _ _ hr hq hF
abbrev Zs (h : Heap) (O : List (Nat × AObj)) (n : Nat) (l : List (Nat × D)) (s : St) : Prop := OK h O /\ WS s ⟨AH n l, Hp h O⟩
theorem st_ {P : Program} {md : Nat -> Nat} {w : Bool} {ops : Array Oper} {os : List Oper} {k : St -> Prop} {n : Nat} {l : List (Nat × D)} {h : Heap} {t ty : TypeId} {pos : String} {af : Array Edge} {x y : Operand} {O : List (Nat × AObj)} {i off : Nat} {cs cs' : List D} {v : D} {c : Nat} (j : Nat) (ok : OK h O) (hi : i ≠ 0) (h2 : szD P t = some c) (hk : OK h (O.set j (i, .cells cs')) -> AO P md w ops os ⟨AH n l, Hp h (O.set j (i, .cells cs'))⟩ k) (hx : opL n l x = .ptr i off := by rfl) (hy : opL n l y = v := by rfl) (hj : O[j]? = some (i, .cells cs) := by rfl) (h1 : v.lay = true := by rfl) (hc : v.cells.length = c := by rfl) (h3 : Nat.ble (off + v.cells.length) cs.length = true := by rfl) (h4 : Fk cs off v.cells = cs' := by (dsimp only [Fk, D.cells, bi, bj, Nat.zero_add, Nat.reduceAdd, List.take_succ_cons, List.take_zero, List.drop_succ_cons, List.drop_zero, List.nil_append, List.cons_append] <;> exact rfl)) : AO P md w ops (⟨none, .store t x y, ty, pos, af, none⟩ :: os) ⟨AH n l, Hp h O⟩ k := Ny ok hx hy hj hi h1 (by rw [h2, hc]) h3 h4 hk
section
variable {g n : Prop} (h : n)
include h
theorem rp (s : Bx n -> g := by (intro h; (repeat (first | with_reducible refine Exit.sel_pan ?_ | with_reducible refine Exit.blk_pan ?_)); exact h.v)) : g := s ⟨h⟩
theorem rr (s : Bx n -> g := by (intro h; (repeat (first | with_reducible refine Exit.sel_ret ?_ | with_reducible refine Exit.blk_ret ?_ | with_reducible refine Exit.jmp_ret ?_)); refine NR rfl (by repeat' first | exact .nil | apply RV.tmp (v := .int _ _) rfl | apply RV.tmp (v := .bool _) rfl | apply RV.tmp (v := .str _) rfl | apply RV.tmp (v := .sl _ _ _) rfl | apply RV.tmp (v := .agg _) rfl | apply RV.tmp (v := ifD _) rfl | apply RV.tmp (v := EC _ _ _) rfl | apply RV.tmp (v := YJ _ _ _ _) rfl | apply RV.tmp (v := .float _ _) rfl | apply RV.tmp (v := .cplx _ _ _) rfl) ?_; exact h.v)) : g := s ⟨h⟩
end
theorem cl {P : Program} {md : Nat -> Nat} {w : Bool} {ops : Array Oper} {os : List Oper} {k : St -> Prop} {n : Nat} {l : List (Nat × D)} {h : Heap} {d : Nat} {ty : TypeId} {pos : String} {af : Array Edge} {g : FuncId} {args : Array Operand} {ts : Array TypeId} {ds : List D} (hc : CallsA P g ds h fun v h' => AO P md w ops os ⟨AH n ((d, v) :: l), h'⟩ k) (hw : WdC (args.toList.map (opL n l)) ds := by (repeat' first | exact .refl _ | exact .zero _ _ _ | exact .nil _ | exact .nil | refine .tupC ?_ | refine .aggC ?_ | refine Wd.toE (.aggC ?_) (none_eq _) | refine .cons ?_ ?_)) : AO P md w ops (⟨some d, .call ⟨.value (.func g), args, ts⟩, ty, pos, af, none⟩ :: os) ⟨AH n l, h⟩ k := Ev hc hw
section
variable {g n : Prop} (h : n)
include h
theorem D8 (s : Bx n -> g := by (intro h; refine Ee ?_; exact h.v)) : g := s ⟨h⟩
theorem KG (s : Bx n -> g := by (intro h; refine Ey ?_; exact h.v)) : g := s ⟨h⟩
theorem Wh (s : Bx n -> g := by (intro h; refine Uv ?_; exact h.v)) : g := s ⟨h⟩
theorem P4 (s : Bx n -> g := by (intro h; refine CG (mdl []) ?_; exact h.v)) : g := s ⟨h⟩
theorem ZD (s : Bx n -> g := by (intro h; refine Aab rfl rfl (by assumption) ?_; exact h.v)) : g := s ⟨h⟩
theorem Aaf (s : Bx n -> g := by (intro h; refine Zi ?_; exact h.v)) : g := s ⟨h⟩
theorem Zc (s : Bx n -> g := by (intro h; refine SO rfl rfl (by assumption) ?_; exact h.v)) : g := s ⟨h⟩
theorem I1 (s : Bx n -> g := by (intro h; refine S_m (v := .int _ _) rfl ?_; exact h.v)) : g := s ⟨h⟩
theorem ZL (s : Bx n -> g := by (intro h; refine S_a (v := .bool _) rfl ?_; exact h.v)) : g := s ⟨h⟩
theorem Nv (s : Bx n -> g := by (intro h; refine S_a (v := .int _ _) rfl ?_; exact h.v)) : g := s ⟨h⟩
theorem Ug (s : Bx n -> g := by (intro h; refine Mw ?_; exact h.v)) : g := s ⟨h⟩
theorem E7 (s : Bx n -> g := by (intro h; refine S_m (v := .bool _) rfl ?_; exact h.v)) : g := s ⟨h⟩
theorem Zt (s : Bx n -> g := by (intro h; refine UE rfl rfl ?_; exact h.v)) : g := s ⟨h⟩
theorem GD (s : Bx n -> g := by (intro h; refine GZ ?_; exact h.v)) : g := s ⟨h⟩
theorem XI (s : Bx n -> g := by (intro h; refine OX (v := .bool _) rfl (by assumption) rfl ?_; exact h.v)) : g := s ⟨h⟩
theorem WY (s : Bx n -> g := by (intro h; refine Tx (v := .bool _) rfl (by assumption) rfl ?_; exact h.v)) : g := s ⟨h⟩
theorem Ly (s : Bx n -> g := by (intro h; refine Ii ?_; exact h.v)) : g := s ⟨h⟩
theorem Lm (s : Bx n -> g := by (intro h; refine S_m (v := .str _) rfl ?_; exact h.v)) : g := s ⟨h⟩
theorem Ta (s : Bx n -> g := by (intro h; refine Ek rfl rfl (Li ..) ?_; exact h.v)) : g := s ⟨h⟩
theorem P8 (s : Bx n -> g := by (intro h; refine Ek rfl rfl (Rl ..) ?_; exact h.v)) : g := s ⟨h⟩
theorem QO (s : Bx n -> g := by (intro h; refine S_m (v := .sl _ _ _) rfl ?_; exact h.v)) : g := s ⟨h⟩
theorem Yq (s : Bx n -> g := by (intro h; refine Ek rfl rfl (RS ..) ?_; exact h.v)) : g := s ⟨h⟩
theorem Zz (s : Bx n -> g := by (intro h; refine OR ?_; exact h.v)) : g := s ⟨h⟩
theorem ZI (s : Bx n -> g := by (intro h; simp only [Exit.sel, Exit.blk, Exit.jmp, if_true, if_false, reduceIte, Nat.reduceEqDiff, Nat.succ_ne_zero, Nat.zero_ne_one, Nat.one_ne_zero]; exact h.v)) : g := s ⟨h⟩
theorem R4 (s : Bx n -> g := by (intro h; refine AV rfl (Bh A8 Ap rfl) ?_; exact h.v)) : g := s ⟨h⟩
theorem Ze (s : Bx n -> g := by (intro h; refine S_a (v := .str _) rfl ?_; exact h.v)) : g := s ⟨h⟩
theorem RR (s : Bx n -> g := by (intro h; refine Ek rfl rfl (UD ..) ?_; exact h.v)) : g := s ⟨h⟩
theorem RC (s : Bx n -> g := by (intro h; refine Xh rfl rfl ?_; exact h.v)) : g := s ⟨h⟩
theorem Wl (s : Bx n -> g := by (intro h; refine Ek rfl rfl (VS ..) ?_; exact h.v)) : g := s ⟨h⟩
theorem Vl (s : Bx n -> g := by (intro h; refine Aac rfl (UV _) ?_; exact h.v)) : g := s ⟨h⟩
theorem YS (s : Bx n -> g := by (intro h; refine ID rfl Ep ?_; exact h.v)) : g := s ⟨h⟩
theorem Se (s : Bx n -> g := by (intro h; refine Vo rfl C2 ?_; exact h.v)) : g := s ⟨h⟩
theorem WD (s : Bx n -> g := by (intro h; refine Ek rfl rfl (Rn ..) ?_; exact h.v)) : g := s ⟨h⟩
theorem Ui (s : Bx n -> g := by (intro h; refine S_a (v := .sl _ _ _) rfl ?_; exact h.v)) : g := s ⟨h⟩
theorem P5 (s : Bx n -> g := by (intro h; refine Ek rfl rfl U7 ?_; exact h.v)) : g := s ⟨h⟩
theorem R6 (s : Bx n -> g := by (intro h; refine S_m (v := .ptr _ _) rfl ?_; exact h.v)) : g := s ⟨h⟩
theorem WR (s : Bx n -> g := by (intro h; refine ID rfl Gv ?_; exact h.v)) : g := s ⟨h⟩
theorem Qi (s : Bx n -> g := by (intro h; refine Ek rfl rfl (RJ ..) ?_; exact h.v)) : g := s ⟨h⟩
theorem YM (s : Bx n -> g := by (intro h; refine A7 rfl Fl Ap rfl ?_; exact h.v)) : g := s ⟨h⟩
theorem Rv (s : Bx n -> g := by (intro h; refine Ek rfl rfl Rm ?_; exact h.v)) : g := s ⟨h⟩
theorem P9 (s : Bx n -> g := by (intro h; refine S_m (v := EC _ _ _) rfl ?_; exact h.v)) : g := s ⟨h⟩
theorem Ub (s : Bx n -> g := by (intro h; refine Ek rfl rfl (U2 ..) ?_; exact h.v)) : g := s ⟨h⟩
theorem ZQ (s : Bx n -> g := by (intro h; refine A7 rfl GC Ap rfl ?_; exact h.v)) : g := s ⟨h⟩
theorem Y2 (s : Bx n -> g := by (intro h; refine S_m (v := .tup _) rfl ?_; exact h.v)) : g := s ⟨h⟩
theorem Xt (s : Bx n -> g := by (intro h; refine He (j := 0) ok rfl rfl rfl (by assumption) (Bh (v := .str _) A8 Ap rfl) ?_; exact h.v)) : g := s ⟨h⟩
theorem Wm (s : Bx n -> g := by (intro h; refine He (j := 0) ok rfl rfl rfl (by assumption) (Bh (v := .int _ _) Eh BV rfl) ?_; exact h.v)) : g := s ⟨h⟩
theorem QF (s : Bx n -> g := by (intro h; refine S_a (v := EC _ _ _) rfl ?_; exact h.v)) : g := s ⟨h⟩
theorem Yo (s : Bx n -> g := by (intro h; refine ID rfl Dn ?_; exact h.v)) : g := s ⟨h⟩
theorem XG (s : Bx n -> g := by (intro h; refine ID rfl Gw ?_; exact h.v)) : g := s ⟨h⟩
theorem X3 (s : Bx n -> g := by (intro h; refine H0 rfl Jn BK ?_; exact h.v)) : g := s ⟨h⟩
theorem Sl (s : Bx n -> g := by (intro h; refine S_m (v := .fn (.func _) _ _) rfl ?_; exact h.v)) : g := s ⟨h⟩
theorem YN (s : Bx n -> g := by (intro h; refine H0 rfl CT BV ?_; exact h.v)) : g := s ⟨h⟩
theorem Wx (s : Bx n -> g := by (intro h; refine A7 rfl Jn BK rfl ?_; exact h.v)) : g := s ⟨h⟩
theorem Xo (s : Bx n -> g := by (intro h; refine MV (v := .ptr _ _) rfl rfl ?_; exact h.v)) : g := s ⟨h⟩
theorem Zr (s : Bx n -> g := by (intro h; refine RD rfl rfl Gw C2 Kh ?_; exact h.v)) : g := s ⟨h⟩
theorem Yl (s : Bx n -> g := by (intro h; refine H0 rfl Fl Ap ?_; exact h.v)) : g := s ⟨h⟩
theorem Zx (s : Bx n -> g := by (intro h; refine H0 rfl Gz Ij ?_; exact h.v)) : g := s ⟨h⟩
theorem Z6 (s : Bx n -> g := by (intro h; refine H0 rfl HA Ap ?_; exact h.v)) : g := s ⟨h⟩
theorem WX (s : Bx n -> g := by (intro h; refine O1 rfl (W0 Gw Kh C2) ?_; exact h.v)) : g := s ⟨h⟩
theorem CL (s : Bx n -> g := by (intro h; refine KG ?_; refine P4 ?_; exact h.v)) : g := s ⟨h⟩
theorem HY (s : Bx n -> g := by (intro h; refine ZD ?_; refine Aaf ?_; exact h.v)) : g := s ⟨h⟩
theorem T7 (s : Bx n -> g := by (intro h; refine Zc ?_; refine Wh ?_; exact h.v)) : g := s ⟨h⟩
theorem CJ (s : Bx n -> g := by (intro h; refine D8 ?_; refine HY ?_; exact h.v)) : g := s ⟨h⟩
theorem P7 (s : Bx n -> g := by (intro h; refine T7 ?_; refine T7 ?_; exact h.v)) : g := s ⟨h⟩
theorem GR (s : Bx n -> g := by (intro h; refine ZL ?_; refine D8 ?_; exact h.v)) : g := s ⟨h⟩
theorem Wg (s : Bx n -> g := by (intro h; refine Zt ?_; refine Wh ?_; exact h.v)) : g := s ⟨h⟩
theorem Qo (s : Bx n -> g := by (intro h; refine XI ?_; refine D8 ?_; exact h.v)) : g := s ⟨h⟩
theorem QM (s : Bx n -> g := by (intro h; refine WY ?_; refine D8 ?_; exact h.v)) : g := s ⟨h⟩
theorem I0 (s : Bx n -> g := by (intro h; refine Nv ?_; refine D8 ?_; exact h.v)) : g := s ⟨h⟩
theorem IZ (s : Bx n -> g := by (intro h; refine CL ?_; refine I1 ?_; exact h.v)) : g := s ⟨h⟩
theorem FJ (s : Bx n -> g := by (intro h; refine GR ?_; refine Ug ?_; exact h.v)) : g := s ⟨h⟩
theorem Yu (s : Bx n -> g := by (intro h; refine I1 ?_; refine D8 ?_; exact h.v)) : g := s ⟨h⟩
theorem QG (s : Bx n -> g := by (intro h; refine I1 ?_; refine CJ ?_; exact h.v)) : g := s ⟨h⟩
theorem UB (s : Bx n -> g := by (intro h; refine Wg ?_; refine Wg ?_; exact h.v)) : g := s ⟨h⟩
theorem N6 (s : Bx n -> g := by (intro h; refine HY ?_; refine QG ?_; exact h.v)) : g := s ⟨h⟩
theorem Hw (s : Bx n -> g := by (intro h; refine Zz ?_; refine ZI ?_; exact h.v)) : g := s ⟨h⟩
theorem Pe (s : Bx n -> g := by (intro h; refine Yq ?_; refine D8 ?_; exact h.v)) : g := s ⟨h⟩
theorem Tl (s : Bx n -> g := by (intro h; refine P7 ?_; refine T7 ?_; exact h.v)) : g := s ⟨h⟩
theorem If (s : Bx n -> g := by (intro h; refine D8 ?_; refine QM ?_; exact h.v)) : g := s ⟨h⟩
theorem Ro (s : Bx n -> g := by (intro h; refine I0 ?_; refine Ug ?_; exact h.v)) : g := s ⟨h⟩
theorem RT (s : Bx n -> g := by (intro h; refine D8 ?_; refine Qo ?_; exact h.v)) : g := s ⟨h⟩
theorem Qa (s : Bx n -> g := by (intro h; refine P7 ?_; refine P7 ?_; exact h.v)) : g := s ⟨h⟩
theorem R5 (s : Bx n -> g := by (intro h; refine GD ?_; refine KG ?_; exact h.v)) : g := s ⟨h⟩
theorem Aad (s : Bx n -> g := by (intro h; refine P4 ?_; refine P8 ?_; exact h.v)) : g := s ⟨h⟩
theorem V2 (s : Bx n -> g := by (intro h; refine Aad ?_; refine Yu ?_; exact h.v)) : g := s ⟨h⟩
theorem N4 (s : Bx n -> g := by (intro h; refine CL ?_; refine FJ ?_; exact h.v)) : g := s ⟨h⟩
theorem MJ (s : Bx n -> g := by (intro h; refine CL ?_; refine Lm ?_; exact h.v)) : g := s ⟨h⟩
theorem R1 (s : Bx n -> g := by (intro h; refine Ze ?_; refine D8 ?_; exact h.v)) : g := s ⟨h⟩
theorem Y7 (s : Bx n -> g := by (intro h; refine CL ?_; refine Pe ?_; exact h.v)) : g := s ⟨h⟩
theorem LX (s : Bx n -> g := by (intro h; refine Y7 ?_; refine KG ?_; exact h.v)) : g := s ⟨h⟩
theorem Uk (s : Bx n -> g := by (intro h; refine Yu ?_; refine Ly ?_; exact h.v)) : g := s ⟨h⟩
theorem O7 (s : Bx n -> g := by (intro h; refine KG ?_; refine IZ ?_; exact h.v)) : g := s ⟨h⟩
theorem Wc (s : Bx n -> g := by (intro h; refine R5 ?_; refine Ly ?_; exact h.v)) : g := s ⟨h⟩
theorem Lx (s : Bx n -> g := by (intro h; refine CL ?_; refine QO ?_; exact h.v)) : g := s ⟨h⟩
theorem Uy (s : Bx n -> g := by (intro h; refine E7 ?_; refine D8 ?_; exact h.v)) : g := s ⟨h⟩
theorem SY (s : Bx n -> g := by (intro h; refine Lm ?_; refine CJ ?_; exact h.v)) : g := s ⟨h⟩
theorem N7 (s : Bx n -> g := by (intro h; refine D8 ?_; refine CL ?_; exact h.v)) : g := s ⟨h⟩
theorem T3 (s : Bx n -> g := by (intro h; refine P4 ?_; refine I1 ?_; exact h.v)) : g := s ⟨h⟩
theorem ZP (s : Bx n -> g := by (intro h; refine Ta ?_; refine GR ?_; exact h.v)) : g := s ⟨h⟩
theorem Yx (s : Bx n -> g := by (intro h; refine Qo ?_; refine D8 ?_; exact h.v)) : g := s ⟨h⟩
theorem ZA (s : Bx n -> g := by (intro h; refine QM ?_; refine D8 ?_; exact h.v)) : g := s ⟨h⟩
theorem UO (s : Bx n -> g := by (intro h; refine P7 ?_; refine QM ?_; exact h.v)) : g := s ⟨h⟩
theorem N9 (s : Bx n -> g := by (intro h; refine CL ?_; refine GR ?_; exact h.v)) : g := s ⟨h⟩
theorem Wo (s : Bx n -> g := by (intro h; refine CJ ?_; refine Uy ?_; exact h.v)) : g := s ⟨h⟩
theorem Ya (s : Bx n -> g := by (intro h; refine UB ?_; refine UB ?_; exact h.v)) : g := s ⟨h⟩
theorem Tw (s : Bx n -> g := by (intro h; refine CL ?_; refine ZP ?_; exact h.v)) : g := s ⟨h⟩
theorem Ud (s : Bx n -> g := by (intro h; refine Wc ?_; refine KG ?_; exact h.v)) : g := s ⟨h⟩
theorem PG (s : Bx n -> g := by (intro h; refine P7 ?_; refine Qo ?_; exact h.v)) : g := s ⟨h⟩
theorem WZ (s : Bx n -> g := by (intro h; refine HY ?_; refine ZA ?_; exact h.v)) : g := s ⟨h⟩
theorem T1 (s : Bx n -> g := by (intro h; refine HY ?_; refine SY ?_; exact h.v)) : g := s ⟨h⟩
theorem ZC (s : Bx n -> g := by (intro h; refine CJ ?_; refine Ta ?_; exact h.v)) : g := s ⟨h⟩
theorem KA (s : Bx n -> g := by (intro h; refine CL ?_; refine Ro ?_; exact h.v)) : g := s ⟨h⟩
theorem Yi (s : Bx n -> g := by (intro h; refine N6 ?_; refine Wl ?_; exact h.v)) : g := s ⟨h⟩
theorem T9 (s : Bx n -> g := by (intro h; refine YS ?_; refine Uk ?_; exact h.v)) : g := s ⟨h⟩
theorem Su (s : Bx n -> g := by (intro h; refine Nv ?_; refine I0 ?_; exact h.v)) : g := s ⟨h⟩
theorem Rh (s : Bx n -> g := by (intro h; refine CL ?_; refine I0 ?_; exact h.v)) : g := s ⟨h⟩
theorem Pb (s : Bx n -> g := by (intro h; refine Tl ?_; refine Qo ?_; exact h.v)) : g := s ⟨h⟩
theorem Qq (s : Bx n -> g := by (intro h; refine D8 ?_; refine KG ?_; exact h.v)) : g := s ⟨h⟩
theorem Y0 (s : Bx n -> g := by (intro h; refine N6 ?_; refine Ta ?_; exact h.v)) : g := s ⟨h⟩
theorem T6 (s : Bx n -> g := by (intro h; refine D8 ?_; refine V2 ?_; exact h.v)) : g := s ⟨h⟩
theorem Sy (s : Bx n -> g := by (intro h; refine GD ?_; refine V2 ?_; exact h.v)) : g := s ⟨h⟩
theorem XF (s : Bx n -> g := by (intro h; refine CJ ?_; refine Yx ?_; exact h.v)) : g := s ⟨h⟩
theorem Yy (s : Bx n -> g := by (intro h; refine P8 ?_; refine I0 ?_; exact h.v)) : g := s ⟨h⟩
theorem Wb (s : Bx n -> g := by (intro h; refine R1 ?_; refine Ug ?_; exact h.v)) : g := s ⟨h⟩
theorem RZ (s : Bx n -> g := by (intro h; refine Y0 ?_; refine If ?_; exact h.v)) : g := s ⟨h⟩
theorem Yp (s : Bx n -> g := by (intro h; refine RR ?_; refine E7 ?_; exact h.v)) : g := s ⟨h⟩
theorem Ul (s : Bx n -> g := by (intro h; refine Nv ?_; refine Ro ?_; exact h.v)) : g := s ⟨h⟩
theorem P6 (s : Bx n -> g := by (intro h; refine GR ?_; refine CL ?_; exact h.v)) : g := s ⟨h⟩
theorem QQ (s : Bx n -> g := by (intro h; refine Tl ?_; refine QM ?_; exact h.v)) : g := s ⟨h⟩
theorem Z9 (s : Bx n -> g := by (intro h; refine CJ ?_; refine R4 ?_; exact h.v)) : g := s ⟨h⟩
theorem X5 (s : Bx n -> g := by (intro h; refine Z9 ?_; refine CJ ?_; exact h.v)) : g := s ⟨h⟩
theorem V9 (s : Bx n -> g := by (intro h; refine Yi ?_; refine RT ?_; exact h.v)) : g := s ⟨h⟩
theorem VD (s : Bx n -> g := by (intro h; refine KG ?_; refine CL ?_; exact h.v)) : g := s ⟨h⟩
theorem Yv (s : Bx n -> g := by (intro h; refine T7 ?_; refine Qo ?_; exact h.v)) : g := s ⟨h⟩
theorem Ut (s : Bx n -> g := by (intro h; refine T3 ?_; refine Yy ?_; exact h.v)) : g := s ⟨h⟩
theorem Yn (s : Bx n -> g := by (intro h; refine Ui ?_; refine D8 ?_; exact h.v)) : g := s ⟨h⟩
theorem Wf (s : Bx n -> g := by (intro h; refine D8 ?_; refine Ly ?_; exact h.v)) : g := s ⟨h⟩
theorem ZR (s : Bx n -> g := by (intro h; refine Ta ?_; refine E7 ?_; exact h.v)) : g := s ⟨h⟩
theorem YW (s : Bx n -> g := by (intro h; refine IZ ?_; refine Yp ?_; exact h.v)) : g := s ⟨h⟩
theorem YH (s : Bx n -> g := by (intro h; refine RC ?_; refine RC ?_; exact h.v)) : g := s ⟨h⟩
theorem Za (s : Bx n -> g := by (intro h; refine HY ?_; refine Yx ?_; exact h.v)) : g := s ⟨h⟩
theorem YX (s : Bx n -> g := by (intro h; refine Qa ?_; refine QM ?_; exact h.v)) : g := s ⟨h⟩
theorem Ov (s : Bx n -> g := by (intro h; refine Qa ?_; refine Qo ?_; exact h.v)) : g := s ⟨h⟩
theorem TG (s : Bx n -> g := by (intro h; refine Ta ?_; refine D8 ?_; exact h.v)) : g := s ⟨h⟩
theorem YE (s : Bx n -> g := by (intro h; refine QO ?_; refine CJ ?_; exact h.v)) : g := s ⟨h⟩
theorem Ua (s : Bx n -> g := by (intro h; refine Y2 ?_; refine YH ?_; exact h.v)) : g := s ⟨h⟩
theorem Wr (s : Bx n -> g := by (intro h; refine WR ?_; refine Uk ?_; exact h.v)) : g := s ⟨h⟩
theorem WM (s : Bx n -> g := by (intro h; refine P7 ?_; refine WZ ?_; exact h.v)) : g := s ⟨h⟩
theorem Wq (s : Bx n -> g := by (intro h; refine CJ ?_; refine Vl ?_; exact h.v)) : g := s ⟨h⟩
theorem Yk (s : Bx n -> g := by (intro h; refine WD ?_; refine D8 ?_; exact h.v)) : g := s ⟨h⟩
theorem Uh (s : Bx n -> g := by (intro h; refine ZQ ?_; refine R4 ?_; exact h.v)) : g := s ⟨h⟩
theorem Wa (s : Bx n -> g := by (intro h; refine ZC ?_; refine RT ?_; exact h.v)) : g := s ⟨h⟩
theorem Wj (s : Bx n -> g := by (intro h; refine P4 ?_; refine R6 ?_; exact h.v)) : g := s ⟨h⟩
theorem Y8 (s : Bx n -> g := by (intro h; refine Wc ?_; refine IZ ?_; exact h.v)) : g := s ⟨h⟩
theorem T5 (s : Bx n -> g := by (intro h; refine Se ?_; refine CJ ?_; exact h.v)) : g := s ⟨h⟩
theorem ZK (s : Bx n -> g := by (intro h; refine Tl ?_; refine UB ?_; exact h.v)) : g := s ⟨h⟩
theorem Aai (s : Bx n -> g := by (intro h; refine N6 ?_; refine RR ?_; exact h.v)) : g := s ⟨h⟩
theorem V6 (s : Bx n -> g := by (intro h; refine GD ?_; refine Ly ?_; exact h.v)) : g := s ⟨h⟩
theorem RH (s : Bx n -> g := by (intro h; refine IZ ?_; refine I1 ?_; exact h.v)) : g := s ⟨h⟩
theorem Zq (s : Bx n -> g := by (intro h; refine Rh ?_; refine Ly ?_; exact h.v)) : g := s ⟨h⟩
theorem TZ (s : Bx n -> g := by (intro h; refine N9 ?_; refine MJ ?_; exact h.v)) : g := s ⟨h⟩
theorem T4 (s : Bx n -> g := by (intro h; refine O7 ?_; refine I1 ?_; exact h.v)) : g := s ⟨h⟩
theorem Uf (s : Bx n -> g := by (intro h; refine HY ?_; refine YE ?_; exact h.v)) : g := s ⟨h⟩
theorem ZT (s : Bx n -> g := by (intro h; refine Ya ?_; refine Ya ?_; exact h.v)) : g := s ⟨h⟩
theorem Wu (s : Bx n -> g := by (intro h; refine Wf ?_; refine Tw ?_; exact h.v)) : g := s ⟨h⟩
theorem T2 (s : Bx n -> g := by (intro h; refine GD ?_; refine N4 ?_; exact h.v)) : g := s ⟨h⟩
theorem YK (s : Bx n -> g := by (intro h; refine ZK ?_; refine Yv ?_; exact h.v)) : g := s ⟨h⟩
theorem YF (s : Bx n -> g := by (intro h; refine Aai ?_; refine Wo ?_; exact h.v)) : g := s ⟨h⟩
theorem YI (s : Bx n -> g := by (intro h; refine Yi ?_; refine XF ?_; exact h.v)) : g := s ⟨h⟩
theorem ZY (s : Bx n -> g := by (intro h; refine YM ?_; refine X5 ?_; exact h.v)) : g := s ⟨h⟩
theorem Xi (s : Bx n -> g := by (intro h; refine Lm ?_; refine Se ?_; exact h.v)) : g := s ⟨h⟩
theorem Wv (s : Bx n -> g := by (intro h; refine YM ?_; refine R4 ?_; exact h.v)) : g := s ⟨h⟩
theorem U9 (s : Bx n -> g := by (intro h; refine D8 ?_; refine Ug ?_; exact h.v)) : g := s ⟨h⟩
theorem Vi (s : Bx n -> g := by (intro h; refine Wh ?_; refine SO rfl rfl rfl ?_; exact h.v)) : g := s ⟨h⟩
theorem V7 (s : Bx n -> g := by (intro h; refine Y8 ?_; refine I0 ?_; exact h.v)) : g := s ⟨h⟩
theorem Ws (s : Bx n -> g := by (intro h; refine WD ?_; refine E7 ?_; exact h.v)) : g := s ⟨h⟩
theorem Xm (s : Bx n -> g := by (intro h; refine Lx ?_; refine I1 ?_; exact h.v)) : g := s ⟨h⟩
theorem WC (s : Bx n -> g := by (intro h; refine HY ?_; refine ZY ?_; exact h.v)) : g := s ⟨h⟩
theorem Va (s : Bx n -> g := by (intro h; refine MJ ?_; refine I1 ?_; exact h.v)) : g := s ⟨h⟩
theorem Yj (s : Bx n -> g := by (intro h; refine Vl ?_; refine D8 ?_; exact h.v)) : g := s ⟨h⟩
theorem ZM (s : Bx n -> g := by (intro h; refine Wg ?_; refine T7 ?_; exact h.v)) : g := s ⟨h⟩
theorem YZ (s : Bx n -> g := by (intro h; refine QO ?_; refine I1 ?_; exact h.v)) : g := s ⟨h⟩
theorem UI (s : Bx n -> g := by (intro h; refine IZ ?_; refine ZR ?_; exact h.v)) : g := s ⟨h⟩
theorem Wn (s : Bx n -> g := by (intro h; refine E7 ?_; refine E7 ?_; exact h.v)) : g := s ⟨h⟩
theorem Z7 (s : Bx n -> g := by (intro h; refine Qi ?_; refine D8 ?_; exact h.v)) : g := s ⟨h⟩
theorem Yd (s : Bx n -> g := by (intro h; refine Qi ?_; refine If ?_; exact h.v)) : g := s ⟨h⟩
theorem Ym (s : Bx n -> g := by (intro h; refine Nv ?_; refine Su ?_; exact h.v)) : g := s ⟨h⟩
theorem Yw (s : Bx n -> g := by (intro h; refine Yq ?_; refine E7 ?_; exact h.v)) : g := s ⟨h⟩
theorem Yc (s : Bx n -> g := by (intro h; refine Ua ?_; refine Su ?_; exact h.v)) : g := s ⟨h⟩
theorem ZO (s : Bx n -> g := by (intro h; refine I1 ?_; refine P8 ?_; exact h.v)) : g := s ⟨h⟩
theorem Ww (s : Bx n -> g := by (intro h; refine O7 ?_; refine Yk ?_; exact h.v)) : g := s ⟨h⟩
theorem ZN (s : Bx n -> g := by (intro h; refine CL ?_; refine Ul ?_; exact h.v)) : g := s ⟨h⟩
theorem Ys (s : Bx n -> g := by (intro h; refine Vl ?_; refine E7 ?_; exact h.v)) : g := s ⟨h⟩
theorem WE (s : Bx n -> g := by (intro h; refine Qa ?_; refine P7 ?_; exact h.v)) : g := s ⟨h⟩
theorem T8 (s : Bx n -> g := by (intro h; refine CL ?_; refine P9 ?_; exact h.v)) : g := s ⟨h⟩
theorem YB (s : Bx n -> g := by (intro h; refine Yo ?_; refine Uk ?_; exact h.v)) : g := s ⟨h⟩
end
end Go.Proofs.YtjofelloaofooaaGreatDoor
