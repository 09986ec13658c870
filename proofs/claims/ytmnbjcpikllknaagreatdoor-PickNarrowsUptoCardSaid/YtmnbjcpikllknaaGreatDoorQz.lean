/- Short words for the walks. No condition. -/
import Derived.Test.YtmnbjcpikllknaaGreatDoorTy
import Derived.Test.YtmnbjcpikllknaaGreatDoorPf
set_option linter.unusedVariables false
namespace Go.Proofs.YtmnbjcpikllknaaGreatDoor
structure Bx (n : Prop) : Prop where
 v : n
theorem ws {p : Prop} (h : p := by (repeat (first | with_reducible exact WS.refl _ | refine WS.add ?_ rfl | exact WS.refl _))) : p := h
theorem tw {p : Prop} (h : p := by (refine ⟨_, hF, .hd (.refl _) ?_⟩; repeat (first | with_reducible exact WS.refl _ | refine WS.add ?_ rfl | exact WS.refl _))) : p := h
theorem th {p : Prop} (h : p := by (first | refine .hd (Agx (by assumption)) ?_ | refine .hd (Ag0 (by assumption)) ?_ | refine .hd (Ad2 (by assumption)) ?_ | refine .hd (Aex (by assumption)) ?_); (repeat (first | with_reducible exact WS.refl _ | refine WS.add ?_ rfl | exact WS.refl _))) : p := h
theorem rt {p : Prop} (h : p := by (repeat (first | with_reducible refine Exit.sel_ret ?_ | with_reducible refine Exit.blk_ret ?_ | with_reducible refine Exit.jmp_ret ?_)); refine HP rfl (by repeat' first | exact .nil | apply RV.tmp (v := .int _ _) rfl | apply RV.tmp (v := .bool _) rfl | apply RV.tmp (v := .str _) rfl | apply RV.tmp (v := .sl _ _ _) rfl | apply RV.tmp (v := .agg _) rfl | apply RV.tmp (v := ifD _) rfl | apply RV.tmp (v := Dm _ _ _) rfl | apply RV.tmp (v := Gv _ _ _ _) rfl | apply RV.tmp (v := .float _ _) rfl | apply RV.tmp (v := .cplx _ _ _) rfl) ?_; first | exact ⟨_, _, .refl _, ok.wh, _, At hF, rfl, rfl⟩ | exact ⟨_, _, .refl _, WH.refl _, _, At hF, rfl⟩ | (refine ⟨_, _, ?_, ok.wh, _, At hF, rfl, rfl⟩; repeat' first | exact .refl _ | exact .zero _ _ _ | exact .nil _ | exact .nil | refine .tupC ?_ | refine .aggC ?_ | refine Wd.toE (.aggC ?_) (none_eq _) | refine .cons ?_ ?_) | (refine ⟨_, _, ?_, WH.refl _, _, At hF, rfl⟩; repeat' first | exact .refl _ | exact .zero _ _ _ | exact .nil _ | exact .nil | refine .tupC ?_ | refine .aggC ?_ | refine Wd.toE (.aggC ?_) (none_eq _) | refine .cons ?_ ?_)) : p := h
theorem oy {h : Heap} {O O' : List (Nat × AObj)} (ok : OK h O) (w : WO O O' := by (repeat' first | exact .refl _ | refine .keep ?_ | refine .drop ?_ | exact .nil)) : OK h O' := (w.spec ok).1
theorem hy {h : Heap} {O O' : List (Nat × AObj)} (ok : OK h O) (w : WO O O' := by (repeat' first | exact .refl _ | refine .keep ?_ | refine .drop ?_ | exact .nil)) : WH (Hp h O) (Hp h O') := (w.spec ok).2.2
theorem wy {n : Nat} {l l' : List (Nat × D)} {h : Heap} {O O' : List (Nat × AObj)} (ok : OK h O) (hl : WL n l l' := by (repeat' first | exact .refl _ | exact .zero _ _ _ | exact .nil _ | exact .nil | refine .tupC ?_ | refine .aggC ?_ | refine Wd.toE (.aggC ?_) (none_eq _) | refine .cons ?_ ?_)) (w : WO O O' := by (repeat' first | exact .refl _ | refine .keep ?_ | refine .drop ?_ | exact .nil)) : WS ⟨AK n l, Hp h O⟩ ⟨AK n l', Hp h O'⟩ := WS.mk' hl ok w
theorem okT {ρ β : Type} {P : Program} {g : FuncId} {ds : List D} {H : Heap} {X : Option ρ} {Q : ρ -> D -> Heap -> Prop} {f : ρ -> Option β} {G : β -> Prop} {R : D -> Heap -> Prop} (w : ∀ G : ρ -> Prop, OptP X G -> CallsA P g ds H fun d h' => ∃ r, G r /\ Q r d h') (hF : OptP (X.bind f) G) (hk : ∀ r d h', X = some r -> Q r d h' -> OptP (f r) G -> R d h') : CallsA P g ds H R := by
 obtain ⟨r0, hr, hF⟩ := Bs hF;refine (w (fun r => r = r0) ⟨r0, hr, rfl⟩).mono ?_;rintro d h' ⟨r, rfl, hq⟩;exact hk _ _ _ hr hq hF
section
variable {g n : Prop} (h : n)
include h
theorem xr (s : Bx n -> g := by (intro h; (repeat (first | with_reducible refine Exit.sel_ret ?_ | with_reducible refine Exit.blk_ret ?_ | with_reducible refine Exit.jmp_ret ?_)); exact h.v)) : g := s ⟨h⟩
end
abbrev Zs (h : Heap) (O : List (Nat × AObj)) (n : Nat) (l : List (Nat × D)) (s : St) : Prop := OK h O /\ WS s ⟨AK n l, Hp h O⟩
theorem st_ {P : Program} {md : Nat -> Nat} {w : Bool} {ops : Array Oper} {os : List Oper} {k : St -> Prop} {n : Nat} {l : List (Nat × D)} {h : Heap} {t ty : TypeId} {pos : String} {af : Array Edge} {x y : Operand} {O : List (Nat × AObj)} {i off : Nat} {cs cs' : List D} {v : D} {c : Nat} (j : Nat) (ok : OK h O) (hi : i ≠ 0) (h2 : szD P t = some c) (hk : OK h (O.set j (i, .cells cs')) -> AU P md w ops os ⟨AK n l, Hp h (O.set j (i, .cells cs'))⟩ k) (hx : opL n l x = .ptr i off := by rfl) (hy : opL n l y = v := by rfl) (hj : O[j]? = some (i, .cells cs) := by rfl) (h1 : v.lay = true := by rfl) (hc : v.cells.length = c := by rfl) (h3 : Nat.ble (off + v.cells.length) cs.length = true := by rfl) (h4 : Gn cs off v.cells = cs' := by (dsimp only [Gn, D.cells, bi, bj, Nat.zero_add, Nat.reduceAdd, List.take_succ_cons, List.take_zero, List.drop_succ_cons, List.drop_zero, List.nil_append, List.cons_append] <;> exact rfl)) : AU P md w ops (⟨none, .store t x y, ty, pos, af, none⟩ :: os) ⟨AK n l, Hp h O⟩ k := FU ok hx hy hj hi h1 (by rw [h2, hc]) h3 h4 hk
section
variable {g n : Prop} (h : n)
include h
theorem rp (s : Bx n -> g := by (intro h; (repeat (first | with_reducible refine Exit.sel_pan ?_ | with_reducible refine Exit.blk_pan ?_)); exact h.v)) : g := s ⟨h⟩
theorem rr (s : Bx n -> g := by (intro h; (repeat (first | with_reducible refine Exit.sel_ret ?_ | with_reducible refine Exit.blk_ret ?_ | with_reducible refine Exit.jmp_ret ?_)); refine HP rfl (by repeat' first | exact .nil | apply RV.tmp (v := .int _ _) rfl | apply RV.tmp (v := .bool _) rfl | apply RV.tmp (v := .str _) rfl | apply RV.tmp (v := .sl _ _ _) rfl | apply RV.tmp (v := .agg _) rfl | apply RV.tmp (v := ifD _) rfl | apply RV.tmp (v := Dm _ _ _) rfl | apply RV.tmp (v := Gv _ _ _ _) rfl | apply RV.tmp (v := .float _ _) rfl | apply RV.tmp (v := .cplx _ _ _) rfl) ?_; exact h.v)) : g := s ⟨h⟩
end
theorem cl {P : Program} {md : Nat -> Nat} {w : Bool} {ops : Array Oper} {os : List Oper} {k : St -> Prop} {n : Nat} {l : List (Nat × D)} {h : Heap} {d : Nat} {ty : TypeId} {pos : String} {af : Array Edge} {g : FuncId} {args : Array Operand} {ts : Array TypeId} {ds : List D} (hc : CallsA P g ds h fun v h' => AU P md w ops os ⟨AK n ((d, v) :: l), h'⟩ k) (hw : WdC (args.toList.map (opL n l)) ds := by (repeat' first | exact .refl _ | exact .zero _ _ _ | exact .nil _ | exact .nil | refine .tupC ?_ | refine .aggC ?_ | refine Wd.toE (.aggC ?_) (none_eq _) | refine .cons ?_ ?_)) : AU P md w ops (⟨some d, .call ⟨.value (.func g), args, ts⟩, ty, pos, af, none⟩ :: os) ⟨AK n l, h⟩ k := QD hc hw
section
variable {g n : Prop} (h : n)
include h
theorem A4 (s : Bx n -> g := by (intro h; refine KA ?_; exact h.v)) : g := s ⟨h⟩
theorem Gy (s : Bx n -> g := by (intro h; refine Lb ?_; exact h.v)) : g := s ⟨h⟩
theorem KS (s : Bx n -> g := by (intro h; refine Cz (mdl []) ?_; exact h.v)) : g := s ⟨h⟩
theorem Ae0 (s : Bx n -> g := by (intro h; refine ZF ?_; exact h.v)) : g := s ⟨h⟩
theorem Agy (s : Bx n -> g := by (intro h; refine Agw rfl rfl (by assumption) ?_; exact h.v)) : g := s ⟨h⟩
theorem Ahf (s : Bx n -> g := by (intro h; refine Ahn ?_; exact h.v)) : g := s ⟨h⟩
theorem Ahi (s : Bx n -> g := by (intro h; refine Ac7 rfl rfl (by assumption) ?_; exact h.v)) : g := s ⟨h⟩
theorem E8 (s : Bx n -> g := by (intro h; refine S_m (v := .int _ _) rfl ?_; exact h.v)) : g := s ⟨h⟩
theorem Jr (s : Bx n -> g := by (intro h; refine S_a (v := .int _ _) rfl ?_; exact h.v)) : g := s ⟨h⟩
theorem Ze (s : Bx n -> g := by (intro h; refine S_a (v := .bool _) rfl ?_; exact h.v)) : g := s ⟨h⟩
theorem Aah (s : Bx n -> g := by (intro h; refine Q9 ?_; exact h.v)) : g := s ⟨h⟩
theorem Cy (s : Bx n -> g := by (intro h; refine S_m (v := .bool _) rfl ?_; exact h.v)) : g := s ⟨h⟩
theorem CU (s : Bx n -> g := by (intro h; refine NT ?_; exact h.v)) : g := s ⟨h⟩
theorem U3 (s : Bx n -> g := by (intro h; refine PE (v := .bool _) rfl (by assumption) rfl ?_; exact h.v)) : g := s ⟨h⟩
theorem UV (s : Bx n -> g := by (intro h; refine Le (v := .bool _) rfl (by assumption) rfl ?_; exact h.v)) : g := s ⟨h⟩
theorem Sn (s : Bx n -> g := by (intro h; refine S_m (v := .ptr _ _) rfl ?_; exact h.v)) : g := s ⟨h⟩
theorem Kq (s : Bx n -> g := by (intro h; refine V6 ?_; exact h.v)) : g := s ⟨h⟩
theorem Rs (s : Bx n -> g := by (intro h; refine Dc rfl rfl (Z7 ..) ?_; exact h.v)) : g := s ⟨h⟩
theorem SA (s : Bx n -> g := by (intro h; refine Wr (v := .ptr _ _) rfl rfl ?_; exact h.v)) : g := s ⟨h⟩
theorem Oe (s : Bx n -> g := by (intro h; refine S_m (v := .sl _ _ _) rfl ?_; exact h.v)) : g := s ⟨h⟩
theorem Xv (s : Bx n -> g := by (intro h; refine Afu rfl rfl ?_; exact h.v)) : g := s ⟨h⟩
theorem X7 (s : Bx n -> g := by (intro h; refine Dc rfl rfl (ZU ..) ?_; exact h.v)) : g := s ⟨h⟩
theorem Q5 (s : Bx n -> g := by (intro h; refine Dc rfl rfl (Abq ..) ?_; exact h.v)) : g := s ⟨h⟩
theorem LV (s : Bx n -> g := by (intro h; refine S_m (v := .str _) rfl ?_; exact h.v)) : g := s ⟨h⟩
theorem Ag8 (s : Bx n -> g := by (intro h; refine Ac7 rfl rfl rfl ?_; exact h.v)) : g := s ⟨h⟩
theorem Ahe (s : Bx n -> g := by (intro h; refine Yi ?_; exact h.v)) : g := s ⟨h⟩
theorem Ag2 (s : Bx n -> g := by (intro h; simp only [Exit.sel, Exit.blk, Exit.jmp, if_true, if_false, reduceIte, Nat.reduceEqDiff, Nat.succ_ne_zero, Nat.zero_ne_one, Nat.one_ne_zero]; exact h.v)) : g := s ⟨h⟩
theorem VU (s : Bx n -> g := by (intro h; refine C3 rfl Lw AJ ?_; exact h.v)) : g := s ⟨h⟩
theorem Rt (s : Bx n -> g := by (intro h; refine B6 (j := 0) ok rfl rfl rfl (by assumption) (Be (v := .int _ _) CN AJ rfl) ?_; exact h.v)) : g := s ⟨h⟩
theorem Ag7 (s : Bx n -> g := by (intro h; refine Ac8 rfl rfl ?_; exact h.v)) : g := s ⟨h⟩
theorem VK (s : Bx n -> g := by (intro h; refine Dc rfl rfl (Aa5 ..) ?_; exact h.v)) : g := s ⟨h⟩
theorem SR (s : Bx n -> g := by (intro h; refine Dc rfl rfl (ZY ..) ?_; exact h.v)) : g := s ⟨h⟩
theorem U0 (s : Bx n -> g := by (intro h; refine B6 (j := 0) ok rfl rfl rfl (by assumption) (Be (v := .str _) BN AI rfl) ?_; exact h.v)) : g := s ⟨h⟩
theorem Xo (s : Bx n -> g := by (intro h; refine Ady rfl (Aap _) ?_; exact h.v)) : g := s ⟨h⟩
theorem Mt (s : Bx n -> g := by (intro h; refine Dc rfl rfl (Aai ..) ?_; exact h.v)) : g := s ⟨h⟩
theorem SZ (s : Bx n -> g := by (intro h; refine S_a (v := .sl _ _ _) rfl ?_; exact h.v)) : g := s ⟨h⟩
theorem Agp (s : Bx n -> g := by (intro h; refine S_m (v := .tup _) rfl ?_; exact h.v)) : g := s ⟨h⟩
theorem KF (s : Bx n -> g := by (intro h; refine Aa8 rfl Bm ?_; exact h.v)) : g := s ⟨h⟩
theorem X6 (s : Bx n -> g := by (intro h; refine Dc rfl rfl (Abi ..) ?_; exact h.v)) : g := s ⟨h⟩
theorem Pt (s : Bx n -> g := by (intro h; refine A2 rfl (Be BN AI rfl) ?_; exact h.v)) : g := s ⟨h⟩
theorem MO (s : Bx n -> g := by (intro h; refine Dc rfl rfl ZH ?_; exact h.v)) : g := s ⟨h⟩
theorem Q6 (s : Bx n -> g := by (intro h; refine Dc rfl rfl (Aaf ..) ?_; exact h.v)) : g := s ⟨h⟩
theorem UU (s : Bx n -> g := by (intro h; refine E9 rfl Ee ?_; exact h.v)) : g := s ⟨h⟩
theorem Aar (s : Bx n -> g := by (intro h; refine A2 rfl (Be QG Ij rfl) ?_; exact h.v)) : g := s ⟨h⟩
theorem Pv (s : Bx n -> g := by (intro h; refine S_a (v := .str _) rfl ?_; exact h.v)) : g := s ⟨h⟩
theorem Ahd (s : Bx n -> g := by (intro h; refine C3 rfl M3 DV ?_; exact h.v)) : g := s ⟨h⟩
theorem Aab (s : Bx n -> g := by (intro h; refine C3 rfl Qe AI ?_; exact h.v)) : g := s ⟨h⟩
theorem Ur (s : Bx n -> g := by (intro h; refine B6 (j := 1) ok rfl rfl rfl (by assumption) (Be (v := .int _ _) CN AJ rfl) ?_; exact h.v)) : g := s ⟨h⟩
theorem V1 (s : Bx n -> g := by (intro h; refine A2 rfl (Be CN AJ rfl) ?_; exact h.v)) : g := s ⟨h⟩
theorem U7 (s : Bx n -> g := by (intro h; refine C3 rfl Kg AI ?_; exact h.v)) : g := s ⟨h⟩
theorem Ahj (s : Bx n -> g := by (intro h; refine B6 (j := 2) ok rfl rfl rfl (by assumption) (Be (v := .sl _ _ _) QE DV rfl) ?_; exact h.v)) : g := s ⟨h⟩
theorem Aak (s : Bx n -> g := by (intro h; refine C3 rfl Qq AI ?_; exact h.v)) : g := s ⟨h⟩
theorem Afv (s : Bx n -> g := by (intro h; refine E9 rfl Eg ?_; exact h.v)) : g := s ⟨h⟩
theorem W9 (s : Bx n -> g := by (intro h; refine BC rfl MR Ij rfl ?_; exact h.v)) : g := s ⟨h⟩
theorem V3 (s : Bx n -> g := by (intro h; refine B6 (j := 1) ok rfl rfl rfl (by assumption) (Be (v := .str _) BN AI rfl) ?_; exact h.v)) : g := s ⟨h⟩
theorem Vu (s : Bx n -> g := by (intro h; refine S_m (v := .fn (.func _) _ _) rfl ?_; exact h.v)) : g := s ⟨h⟩
theorem VJ (s : Bx n -> g := by (intro h; refine C3 rfl PU If ?_; exact h.v)) : g := s ⟨h⟩
theorem Wo (s : Bx n -> g := by (intro h; refine C3 rfl DN BV ?_; exact h.v)) : g := s ⟨h⟩
theorem Aef (s : Bx n -> g := by (intro h; refine B6 (j := 5) ok rfl rfl rfl (by assumption) (Be (v := .sl _ _ _) GC DA rfl) ?_; exact h.v)) : g := s ⟨h⟩
theorem WK (s : Bx n -> g := by (intro h; refine A2 rfl (Be N4 DD rfl) ?_; exact h.v)) : g := s ⟨h⟩
theorem WF (s : Bx n -> g := by (intro h; refine BC rfl Kg AI rfl ?_; exact h.v)) : g := s ⟨h⟩
theorem Ws (s : Bx n -> g := by (intro h; refine E9 rfl GF ?_; exact h.v)) : g := s ⟨h⟩
theorem Agh (s : Bx n -> g := by (intro h; refine BC rfl Nk Ij rfl ?_; exact h.v)) : g := s ⟨h⟩
theorem XR (s : Bx n -> g := by (intro h; refine C3 rfl P7 CK ?_; exact h.v)) : g := s ⟨h⟩
theorem YY (s : Bx n -> g := by (intro h; refine C3 rfl P9 Ji ?_; exact h.v)) : g := s ⟨h⟩
theorem Agk (s : Bx n -> g := by (intro h; refine BC rfl Ip AI rfl ?_; exact h.v)) : g := s ⟨h⟩
theorem YJ (s : Bx n -> g := by (intro h; refine C3 rfl Cm AJ ?_; exact h.v)) : g := s ⟨h⟩
theorem XU (s : Bx n -> g := by (intro h; refine BC rfl RX DD rfl ?_; exact h.v)) : g := s ⟨h⟩
theorem Y9 (s : Bx n -> g := by (intro h; refine BC rfl JZ AF rfl ?_; exact h.v)) : g := s ⟨h⟩
theorem Zf (s : Bx n -> g := by (intro h; refine E9 rfl Hv ?_; exact h.v)) : g := s ⟨h⟩
theorem Aey (s : Bx n -> g := by (intro h; refine B6 (j := 0) ok rfl rfl rfl (by assumption) (Be (v := .sl _ _ _) Ly If rfl) ?_; exact h.v)) : g := s ⟨h⟩
theorem Zp (s : Bx n -> g := by (intro h; refine Dc rfl rfl Acm ?_; exact h.v)) : g := s ⟨h⟩
theorem Zm (s : Bx n -> g := by (intro h; refine E9 rfl Hk ?_; exact h.v)) : g := s ⟨h⟩
theorem Abg (s : Bx n -> g := by (intro h; refine C3 rfl Ip AI ?_; exact h.v)) : g := s ⟨h⟩
theorem Z8 (s : Bx n -> g := by (intro h; refine S_a (v := Dm _ _ _) rfl ?_; exact h.v)) : g := s ⟨h⟩
theorem Abu (s : Bx n -> g := by (intro h; refine A2 rfl (Be G6 CK rfl) ?_; exact h.v)) : g := s ⟨h⟩
theorem Aby (s : Bx n -> g := by (intro h; refine S_m (v := Dm _ _ _) rfl ?_; exact h.v)) : g := s ⟨h⟩
theorem ZZ (s : Bx n -> g := by (intro h; refine C3 rfl C8 BI ?_; exact h.v)) : g := s ⟨h⟩
theorem Adj (s : Bx n -> g := by (intro h; refine C3 rfl P0 AJ ?_; exact h.v)) : g := s ⟨h⟩
theorem Adi (s : Bx n -> g := by (intro h; refine C3 rfl Lx GN ?_; exact h.v)) : g := s ⟨h⟩
theorem Ado (s : Bx n -> g := by (intro h; refine C3 rfl Rk DD ?_; exact h.v)) : g := s ⟨h⟩
theorem Adl (s : Bx n -> g := by (intro h; refine B6 (j := 0) ok rfl rfl rfl (by assumption) (Be (v := Dm _ _ _) OA Ji rfl) ?_; exact h.v)) : g := s ⟨h⟩
theorem Adq (s : Bx n -> g := by (intro h; refine BC rfl Rv AE rfl ?_; exact h.v)) : g := s ⟨h⟩
theorem Add (s : Bx n -> g := by (intro h; refine BC rfl R8 AF rfl ?_; exact h.v)) : g := s ⟨h⟩
theorem Af3 (s : Bx n -> g := by (intro h; refine B6 (j := 0) ok rfl rfl rfl (by assumption) (Be (v := .bool _) N4 DD rfl) ?_; exact h.v)) : g := s ⟨h⟩
theorem Afx (s : Bx n -> g := by (intro h; refine A2 rfl (Be T3 GN rfl) ?_; exact h.v)) : g := s ⟨h⟩
theorem Ad4 (s : Bx n -> g := by (intro h; refine B6 (j := 1) ok rfl rfl rfl (by assumption) (Be (v := .sl _ _ _) Ew BV rfl) ?_; exact h.v)) : g := s ⟨h⟩
theorem Agf (s : Bx n -> g := by (intro h; refine B6 (j := 2) ok rfl rfl rfl (by assumption) (Be (v := .bool _) N4 DD rfl) ?_; exact h.v)) : g := s ⟨h⟩
theorem Agj (s : Bx n -> g := by (intro h; refine B6 (j := 1) ok rfl rfl rfl (by assumption) (Be (v := Dm _ _ _) OA Ji rfl) ?_; exact h.v)) : g := s ⟨h⟩
theorem Agn (s : Bx n -> g := by (intro h; refine B6 (j := 0) ok rfl rfl rfl (by assumption) (Be (v := .ptr _ _) Lg Js rfl) ?_; exact h.v)) : g := s ⟨h⟩
theorem Aga (s : Bx n -> g := by (intro h; refine B6 (j := 1) ok rfl rfl rfl (by assumption) (Be (v := .ptr _ _) Lg Js rfl) ?_; exact h.v)) : g := s ⟨h⟩
theorem Af7 (s : Bx n -> g := by (intro h; refine B6 (j := 3) ok rfl rfl rfl (by assumption) (Be (v := .sl _ _ _) GC DA rfl) ?_; exact h.v)) : g := s ⟨h⟩
theorem Agl (s : Bx n -> g := by (intro h; refine B6 (j := 1) ok rfl rfl rfl (by assumption) (Be (v := Dm _ _ _) Ew BV rfl) ?_; exact h.v)) : g := s ⟨h⟩
theorem Af6 (s : Bx n -> g := by (intro h; refine B6 (j := 0) ok rfl rfl rfl (by assumption) (Be (v := .sl _ _ _) QG Ij rfl) ?_; exact h.v)) : g := s ⟨h⟩
theorem Agb (s : Bx n -> g := by (intro h; refine B6 (j := 3) ok rfl rfl rfl (by assumption) (Be (v := .sl _ _ _) Ew BV rfl) ?_; exact h.v)) : g := s ⟨h⟩
theorem Bz (s : Bx n -> g := by (intro h; refine Gy ?_; refine KS ?_; exact h.v)) : g := s ⟨h⟩
theorem Eb (s : Bx n -> g := by (intro h; refine Agy ?_; refine Ahf ?_; exact h.v)) : g := s ⟨h⟩
theorem Aaz (s : Bx n -> g := by (intro h; refine Ahi ?_; refine Ae0 ?_; exact h.v)) : g := s ⟨h⟩
theorem Br (s : Bx n -> g := by (intro h; refine A4 ?_; refine Eb ?_; exact h.v)) : g := s ⟨h⟩
theorem NM (s : Bx n -> g := by (intro h; refine Aaz ?_; refine Aaz ?_; exact h.v)) : g := s ⟨h⟩
theorem Ev (s : Bx n -> g := by (intro h; refine Ze ?_; refine A4 ?_; exact h.v)) : g := s ⟨h⟩
theorem HD (s : Bx n -> g := by (intro h; refine Jr ?_; refine A4 ?_; exact h.v)) : g := s ⟨h⟩
theorem U2 (s : Bx n -> g := by (intro h; refine U3 ?_; refine A4 ?_; exact h.v)) : g := s ⟨h⟩
theorem Og (s : Bx n -> g := by (intro h; refine UV ?_; refine A4 ?_; exact h.v)) : g := s ⟨h⟩
theorem GP (s : Bx n -> g := by (intro h; refine Bz ?_; refine E8 ?_; exact h.v)) : g := s ⟨h⟩
theorem Fz (s : Bx n -> g := by (intro h; refine Ev ?_; refine Aah ?_; exact h.v)) : g := s ⟨h⟩
theorem Pu (s : Bx n -> g := by (intro h; refine E8 ?_; refine Br ?_; exact h.v)) : g := s ⟨h⟩
theorem QC (s : Bx n -> g := by (intro h; refine HD ?_; refine Aah ?_; exact h.v)) : g := s ⟨h⟩
theorem Kr (s : Bx n -> g := by (intro h; refine Eb ?_; refine Pu ?_; exact h.v)) : g := s ⟨h⟩
theorem Ii (s : Bx n -> g := by (intro h; refine NM ?_; refine NM ?_; exact h.v)) : g := s ⟨h⟩
theorem I4 (s : Bx n -> g := by (intro h; refine A4 ?_; refine Gy ?_; exact h.v)) : g := s ⟨h⟩
theorem Ago (s : Bx n -> g := by (intro h; refine E8 ?_; refine A4 ?_; exact h.v)) : g := s ⟨h⟩
theorem GI (s : Bx n -> g := by (intro h; refine A4 ?_; refine Og ?_; exact h.v)) : g := s ⟨h⟩
theorem G5 (s : Bx n -> g := by (intro h; refine A4 ?_; refine U2 ?_; exact h.v)) : g := s ⟨h⟩
theorem Agc (s : Bx n -> g := by (intro h; refine Ag8 ?_; refine Ae0 ?_; exact h.v)) : g := s ⟨h⟩
theorem Oi (s : Bx n -> g := by (intro h; refine Sn ?_; refine SA ?_; exact h.v)) : g := s ⟨h⟩
theorem Ft (s : Bx n -> g := by (intro h; refine Ahe ?_; refine Ag2 ?_; exact h.v)) : g := s ⟨h⟩
theorem RH (s : Bx n -> g := by (intro h; refine NM ?_; refine Aaz ?_; exact h.v)) : g := s ⟨h⟩
theorem Gi (s : Bx n -> g := by (intro h; refine A4 ?_; refine Bz ?_; exact h.v)) : g := s ⟨h⟩
theorem JJ (s : Bx n -> g := by (intro h; refine Bz ?_; refine Oe ?_; exact h.v)) : g := s ⟨h⟩
theorem Oh (s : Bx n -> g := by (intro h; refine CU ?_; refine Gy ?_; exact h.v)) : g := s ⟨h⟩
theorem IT (s : Bx n -> g := by (intro h; refine Bz ?_; refine Fz ?_; exact h.v)) : g := s ⟨h⟩
theorem LD (s : Bx n -> g := by (intro h; refine Jr ?_; refine HD ?_; exact h.v)) : g := s ⟨h⟩
theorem MA (s : Bx n -> g := by (intro h; refine Gy ?_; refine GP ?_; exact h.v)) : g := s ⟨h⟩
theorem HS (s : Bx n -> g := by (intro h; refine NM ?_; refine Og ?_; exact h.v)) : g := s ⟨h⟩
theorem Yr (s : Bx n -> g := by (intro h; refine Ag7 ?_; refine Ae0 ?_; exact h.v)) : g := s ⟨h⟩
theorem Iy (s : Bx n -> g := by (intro h; refine Sn ?_; refine A4 ?_; exact h.v)) : g := s ⟨h⟩
theorem Ags (s : Bx n -> g := by (intro h; refine KS ?_; refine Q5 ?_; exact h.v)) : g := s ⟨h⟩
theorem M6 (s : Bx n -> g := by (intro h; refine Ags ?_; refine Ago ?_; exact h.v)) : g := s ⟨h⟩
theorem Lt (s : Bx n -> g := by (intro h; refine Ago ?_; refine Kq ?_; exact h.v)) : g := s ⟨h⟩
theorem Ag1 (s : Bx n -> g := by (intro h; refine Bz ?_; refine X7 ?_; exact h.v)) : g := s ⟨h⟩
theorem Je (s : Bx n -> g := by (intro h; refine Ag1 ?_; refine I4 ?_; exact h.v)) : g := s ⟨h⟩
theorem Ls (s : Bx n -> g := by (intro h; refine Bz ?_; refine QC ?_; exact h.v)) : g := s ⟨h⟩
theorem KU (s : Bx n -> g := by (intro h; refine Bz ?_; refine Ev ?_; exact h.v)) : g := s ⟨h⟩
theorem KM (s : Bx n -> g := by (intro h; refine Bz ?_; refine LV ?_; exact h.v)) : g := s ⟨h⟩
theorem JO (s : Bx n -> g := by (intro h; refine A4 ?_; refine Aah ?_; exact h.v)) : g := s ⟨h⟩
theorem WW (s : Bx n -> g := by (intro h; refine Agc ?_; refine Agc ?_; exact h.v)) : g := s ⟨h⟩
theorem La (s : Bx n -> g := by (intro h; refine Jr ?_; refine QC ?_; exact h.v)) : g := s ⟨h⟩
theorem Ko (s : Bx n -> g := by (intro h; refine NM ?_; refine U2 ?_; exact h.v)) : g := s ⟨h⟩
theorem Agm (s : Bx n -> g := by (intro h; refine Xv ?_; refine Xv ?_; exact h.v)) : g := s ⟨h⟩
theorem Qw (s : Bx n -> g := by (intro h; refine KS ?_; refine E8 ?_; exact h.v)) : g := s ⟨h⟩
theorem SM (s : Bx n -> g := by (intro h; refine Agp ?_; refine Agm ?_; exact h.v)) : g := s ⟨h⟩
theorem Ya (s : Bx n -> g := by (intro h; refine Oi ?_; refine VU ?_; exact h.v)) : g := s ⟨h⟩
theorem YV (s : Bx n -> g := by (intro h; refine Oh ?_; refine Kq ?_; exact h.v)) : g := s ⟨h⟩
theorem Mn (s : Bx n -> g := by (intro h; refine Bz ?_; refine Sn ?_; exact h.v)) : g := s ⟨h⟩
theorem U5 (s : Bx n -> g := by (intro h; refine Cy ?_; refine A4 ?_; exact h.v)) : g := s ⟨h⟩
theorem Xr (s : Bx n -> g := by (intro h; refine Kr ?_; refine Rs ?_; exact h.v)) : g := s ⟨h⟩
theorem QL (s : Bx n -> g := by (intro h; refine Rs ?_; refine Cy ?_; exact h.v)) : g := s ⟨h⟩
theorem M7 (s : Bx n -> g := by (intro h; refine RH ?_; refine U2 ?_; exact h.v)) : g := s ⟨h⟩
theorem N2 (s : Bx n -> g := by (intro h; refine GP ?_; refine E8 ?_; exact h.v)) : g := s ⟨h⟩
theorem Adh (s : Bx n -> g := by (intro h; refine Rs ?_; refine Ev ?_; exact h.v)) : g := s ⟨h⟩
theorem SB (s : Bx n -> g := by (intro h; refine Ya ?_; refine Rt ?_; exact h.v)) : g := s ⟨h⟩
theorem Afo (s : Bx n -> g := by (intro h; refine Sn ?_; refine Br ?_; exact h.v)) : g := s ⟨h⟩
theorem Zh (s : Bx n -> g := by (intro h; refine Kr ?_; refine X6 ?_; exact h.v)) : g := s ⟨h⟩
theorem Age (s : Bx n -> g := by (intro h; refine SA ?_; refine Br ?_; exact h.v)) : g := s ⟨h⟩
theorem Om (s : Bx n -> g := by (intro h; refine Rs ?_; refine A4 ?_; exact h.v)) : g := s ⟨h⟩
theorem Pw (s : Bx n -> g := by (intro h; refine Bz ?_; refine HD ?_; exact h.v)) : g := s ⟨h⟩
theorem Sq (s : Bx n -> g := by (intro h; refine SR ?_; refine A4 ?_; exact h.v)) : g := s ⟨h⟩
theorem Aa1 (s : Bx n -> g := by (intro h; refine Oe ?_; refine Br ?_; exact h.v)) : g := s ⟨h⟩
theorem Ab6 (s : Bx n -> g := by (intro h; refine Afo ?_; refine Age ?_; exact h.v)) : g := s ⟨h⟩
theorem P3 (s : Bx n -> g := by (intro h; refine X7 ?_; refine A4 ?_; exact h.v)) : g := s ⟨h⟩
theorem Z6 (s : Bx n -> g := by (intro h; refine Q5 ?_; refine HD ?_; exact h.v)) : g := s ⟨h⟩
theorem UO (s : Bx n -> g := by (intro h; refine Bz ?_; refine Adh ?_; exact h.v)) : g := s ⟨h⟩
theorem Adc (s : Bx n -> g := by (intro h; refine VK ?_; refine Cy ?_; exact h.v)) : g := s ⟨h⟩
theorem WB (s : Bx n -> g := by (intro h; refine Yr ?_; refine Yr ?_; exact h.v)) : g := s ⟨h⟩
theorem PO (s : Bx n -> g := by (intro h; refine Xr ?_; refine GI ?_; exact h.v)) : g := s ⟨h⟩
theorem WY (s : Bx n -> g := by (intro h; refine SM ?_; refine Xv ?_; exact h.v)) : g := s ⟨h⟩
theorem UY (s : Bx n -> g := by (intro h; refine Gy ?_; refine Bz ?_; exact h.v)) : g := s ⟨h⟩
theorem Zo (s : Bx n -> g := by (intro h; refine U2 ?_; refine A4 ?_; exact h.v)) : g := s ⟨h⟩
theorem Zn (s : Bx n -> g := by (intro h; refine Og ?_; refine A4 ?_; exact h.v)) : g := s ⟨h⟩
theorem QR (s : Bx n -> g := by (intro h; refine Ahd ?_; refine A4 ?_; exact h.v)) : g := s ⟨h⟩
theorem Sr (s : Bx n -> g := by (intro h; refine CU ?_; refine M6 ?_; exact h.v)) : g := s ⟨h⟩
theorem Ry (s : Bx n -> g := by (intro h; refine Zh ?_; refine G5 ?_; exact h.v)) : g := s ⟨h⟩
theorem RK (s : Bx n -> g := by (intro h; refine Br ?_; refine U5 ?_; exact h.v)) : g := s ⟨h⟩
theorem Rw (s : Bx n -> g := by (intro h; refine Kq ?_; refine Gy ?_; exact h.v)) : g := s ⟨h⟩
theorem R4 (s : Bx n -> g := by (intro h; refine Ev ?_; refine Bz ?_; exact h.v)) : g := s ⟨h⟩
theorem Sb (s : Bx n -> g := by (intro h; refine RH ?_; refine Og ?_; exact h.v)) : g := s ⟨h⟩
theorem Rz (s : Bx n -> g := by (intro h; refine Eb ?_; refine Aa1 ?_; exact h.v)) : g := s ⟨h⟩
theorem Sv (s : Bx n -> g := by (intro h; refine X7 ?_; refine Cy ?_; exact h.v)) : g := s ⟨h⟩
theorem Ss (s : Bx n -> g := by (intro h; refine Eb ?_; refine Ab6 ?_; exact h.v)) : g := s ⟨h⟩
theorem Sy (s : Bx n -> g := by (intro h; refine Ii ?_; refine Ii ?_; exact h.v)) : g := s ⟨h⟩
theorem SF (s : Bx n -> g := by (intro h; refine GP ?_; refine Adc ?_; exact h.v)) : g := s ⟨h⟩
theorem SG (s : Bx n -> g := by (intro h; refine Aaz ?_; refine U2 ?_; exact h.v)) : g := s ⟨h⟩
theorem SD (s : Bx n -> g := by (intro h; refine CU ?_; refine Bz ?_; exact h.v)) : g := s ⟨h⟩
theorem Sw (s : Bx n -> g := by (intro h; refine Qw ?_; refine Z6 ?_; exact h.v)) : g := s ⟨h⟩
theorem SC (s : Bx n -> g := by (intro h; refine Ii ?_; refine U2 ?_; exact h.v)) : g := s ⟨h⟩
theorem Ahm (s : Bx n -> g := by (intro h; refine Br ?_; refine U0 ?_; exact h.v)) : g := s ⟨h⟩
theorem To (s : Bx n -> g := by (intro h; refine Ahm ?_; refine Br ?_; exact h.v)) : g := s ⟨h⟩
theorem Uw (s : Bx n -> g := by (intro h; refine SA ?_; refine VU ?_; exact h.v)) : g := s ⟨h⟩
theorem Zi (s : Bx n -> g := by (intro h; refine Br ?_; refine Xo ?_; exact h.v)) : g := s ⟨h⟩
theorem Te (s : Bx n -> g := by (intro h; refine WW ?_; refine WW ?_; exact h.v)) : g := s ⟨h⟩
theorem ZC (s : Bx n -> g := by (intro h; refine Br ?_; refine Rs ?_; exact h.v)) : g := s ⟨h⟩
theorem VS (s : Bx n -> g := by (intro h; refine GP ?_; refine QC ?_; exact h.v)) : g := s ⟨h⟩
theorem U6 (s : Bx n -> g := by (intro h; refine Aaz ?_; refine Og ?_; exact h.v)) : g := s ⟨h⟩
theorem UX (s : Bx n -> g := by (intro h; refine Ahj ?_; refine A4 ?_; exact h.v)) : g := s ⟨h⟩
theorem Afs (s : Bx n -> g := by (intro h; refine GP ?_; refine HD ?_; exact h.v)) : g := s ⟨h⟩
theorem Abo (s : Bx n -> g := by (intro h; refine A4 ?_; refine Kq ?_; exact h.v)) : g := s ⟨h⟩
theorem UZ (s : Bx n -> g := by (intro h; refine LV ?_; refine Br ?_; exact h.v)) : g := s ⟨h⟩
theorem Adm (s : Bx n -> g := by (intro h; refine Oi ?_; refine Aab ?_; exact h.v)) : g := s ⟨h⟩
theorem Vr (s : Bx n -> g := by (intro h; refine Br ?_; refine Rt ?_; exact h.v)) : g := s ⟨h⟩
theorem VZ (s : Bx n -> g := by (intro h; refine YV ?_; refine Gy ?_; exact h.v)) : g := s ⟨h⟩
theorem Wg (s : Bx n -> g := by (intro h; refine Br ?_; refine Zo ?_; exact h.v)) : g := s ⟨h⟩
theorem V8 (s : Bx n -> g := by (intro h; refine Eb ?_; refine Zn ?_; exact h.v)) : g := s ⟨h⟩
theorem Xb (s : Bx n -> g := by (intro h; refine LD ?_; refine MA ?_; exact h.v)) : g := s ⟨h⟩
theorem V0 (s : Bx n -> g := by (intro h; refine CU ?_; refine Kq ?_; exact h.v)) : g := s ⟨h⟩
theorem Vz (s : Bx n -> g := by (intro h; refine Jr ?_; refine Fz ?_; exact h.v)) : g := s ⟨h⟩
theorem Vw (s : Bx n -> g := by (intro h; refine SZ ?_; refine A4 ?_; exact h.v)) : g := s ⟨h⟩
theorem Wt (s : Bx n -> g := by (intro h; refine CU ?_; refine IT ?_; exact h.v)) : g := s ⟨h⟩
theorem Xj (s : Bx n -> g := by (intro h; refine RH ?_; refine WB ?_; exact h.v)) : g := s ⟨h⟩
theorem W7 (s : Bx n -> g := by (intro h; refine E8 ?_; refine Q5 ?_; exact h.v)) : g := s ⟨h⟩
theorem WZ (s : Bx n -> g := by (intro h; refine YV ?_; refine Afs ?_; exact h.v)) : g := s ⟨h⟩
theorem WG (s : Bx n -> g := by (intro h; refine Bz ?_; refine Jr ?_; exact h.v)) : g := s ⟨h⟩
theorem Xs (s : Bx n -> g := by (intro h; refine GP ?_; refine QL ?_; exact h.v)) : g := s ⟨h⟩
theorem Ae1 (s : Bx n -> g := by (intro h; refine WY ?_; refine SZ ?_; exact h.v)) : g := s ⟨h⟩
theorem Xt (s : Bx n -> g := by (intro h; refine Afv ?_; refine Lt ?_; exact h.v)) : g := s ⟨h⟩
theorem Zk (s : Bx n -> g := by (intro h; refine JJ ?_; refine UU ?_; exact h.v)) : g := s ⟨h⟩
theorem X9 (s : Bx n -> g := by (intro h; refine Br ?_; refine Pu ?_; exact h.v)) : g := s ⟨h⟩
theorem YQ (s : Bx n -> g := by (intro h; refine Xo ?_; refine A4 ?_; exact h.v)) : g := s ⟨h⟩
theorem XK (s : Bx n -> g := by (intro h; refine Bz ?_; refine SB ?_; exact h.v)) : g := s ⟨h⟩
theorem X5 (s : Bx n -> g := by (intro h; refine Xo ?_; refine Cy ?_; exact h.v)) : g := s ⟨h⟩
theorem YX (s : Bx n -> g := by (intro h; refine Oe ?_; refine E8 ?_; exact h.v)) : g := s ⟨h⟩
theorem X1 (s : Bx n -> g := by (intro h; refine Bz ?_; refine Oi ?_; exact h.v)) : g := s ⟨h⟩
theorem XH (s : Bx n -> g := by (intro h; refine MA ?_; refine E8 ?_; exact h.v)) : g := s ⟨h⟩
theorem Ye (s : Bx n -> g := by (intro h; refine Br ?_; refine Q6 ?_; exact h.v)) : g := s ⟨h⟩
theorem XN (s : Bx n -> g := by (intro h; refine Mt ?_; refine Br ?_; exact h.v)) : g := s ⟨h⟩
theorem XA (s : Bx n -> g := by (intro h; refine ZC ?_; refine G5 ?_; exact h.v)) : g := s ⟨h⟩
theorem Zu (s : Bx n -> g := by (intro h; refine CU ?_; refine Ls ?_; exact h.v)) : g := s ⟨h⟩
theorem YN (s : Bx n -> g := by (intro h; refine Agh ?_; refine Aar ?_; exact h.v)) : g := s ⟨h⟩
theorem Adk (s : Bx n -> g := by (intro h; refine Aey ?_; refine E9 rfl G0 ?_; exact h.v)) : g := s ⟨h⟩
theorem Adn (s : Bx n -> g := by (intro h; refine JJ ?_; refine E9 rfl CS ?_; exact h.v)) : g := s ⟨h⟩
theorem Zg (s : Bx n -> g := by (intro h; refine Adm ?_; refine U0 ?_; exact h.v)) : g := s ⟨h⟩
theorem Zt (s : Bx n -> g := by (intro h; refine KU ?_; refine Gy ?_; exact h.v)) : g := s ⟨h⟩
theorem Zy (s : Bx n -> g := by (intro h; refine Kr ?_; refine VK ?_; exact h.v)) : g := s ⟨h⟩
theorem Zd (s : Bx n -> g := by (intro h; refine Kr ?_; refine X7 ?_; exact h.v)) : g := s ⟨h⟩
theorem Y8 (s : Bx n -> g := by (intro h; refine Zi ?_; refine GI ?_; exact h.v)) : g := s ⟨h⟩
theorem YZ (s : Bx n -> g := by (intro h; refine Br ?_; refine VK ?_; exact h.v)) : g := s ⟨h⟩
theorem Zx (s : Bx n -> g := by (intro h; refine Aak ?_; refine U0 ?_; exact h.v)) : g := s ⟨h⟩
theorem Y5 (s : Bx n -> g := by (intro h; refine Ev ?_; refine UY ?_; exact h.v)) : g := s ⟨h⟩
theorem Zw (s : Bx n -> g := by (intro h; refine Abo ?_; refine UO ?_; exact h.v)) : g := s ⟨h⟩
theorem Zv (s : Bx n -> g := by (intro h; refine Bz ?_; refine La ?_; exact h.v)) : g := s ⟨h⟩
theorem ZS (s : Bx n -> g := by (intro h; refine GP ?_; refine Sq ?_; exact h.v)) : g := s ⟨h⟩
theorem Y7 (s : Bx n -> g := by (intro h; refine KM ?_; refine E8 ?_; exact h.v)) : g := s ⟨h⟩
theorem Y4 (s : Bx n -> g := by (intro h; refine SR ?_; refine Cy ?_; exact h.v)) : g := s ⟨h⟩
theorem Zl (s : Bx n -> g := by (intro h; refine I4 ?_; refine Bz ?_; exact h.v)) : g := s ⟨h⟩
theorem Y0 (s : Bx n -> g := by (intro h; refine Ae1 ?_; refine LD ?_; exact h.v)) : g := s ⟨h⟩
theorem Zz (s : Bx n -> g := by (intro h; refine Aef ?_; refine A4 ?_; exact h.v)) : g := s ⟨h⟩
theorem Abj (s : Bx n -> g := by (intro h; refine JJ ?_; refine E8 ?_; exact h.v)) : g := s ⟨h⟩
theorem Y3 (s : Bx n -> g := by (intro h; refine Agk ?_; refine Pt ?_; exact h.v)) : g := s ⟨h⟩
theorem Ahb (s : Bx n -> g := by (intro h; refine Br ?_; refine Aar ?_; exact h.v)) : g := s ⟨h⟩
theorem Zb (s : Bx n -> g := by (intro h; refine Ahb ?_; refine Br ?_; exact h.v)) : g := s ⟨h⟩
end
end Go.Proofs.YtmnbjcpikllknaaGreatDoor
