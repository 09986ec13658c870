/- Short words for the walks. No condition. -/
import Derived.Test.YtmnbjcpikllknaaGreatDoorTy
import Derived.Test.YtmnbjcpikllknaaGreatDoorPf
set_option linter.unusedVariables false
namespace Go.Proofs.YtmnbjcpikllknaaGreatDoor
structure Bx (n : Prop) : Prop where
 v : n
theorem ws {p : Prop} (h : p := by (repeat (first | with_reducible exact WS.refl _ | refine WS.add ?_ rfl | exact WS.refl _))) : p := h
theorem tw {p : Prop} (h : p := by (refine ⟨_, hF, .hd (.refl _) ?_⟩; repeat (first | with_reducible exact WS.refl _ | refine WS.add ?_ rfl | exact WS.refl _))) : p := h
theorem th {p : Prop} (h : p := by (first | refine .hd (Aic (by assumption)) ?_ | refine .hd (Aje (by assumption)) ?_ | refine .hd (Agw (by assumption)) ?_ | refine .hd (Afl (by assumption)) ?_); (repeat (first | with_reducible exact WS.refl _ | refine WS.add ?_ rfl | exact WS.refl _))) : p := h
theorem rt {p : Prop} (h : p := by (repeat (first | with_reducible refine Exit.sel_ret ?_ | with_reducible refine Exit.blk_ret ?_ | with_reducible refine Exit.jmp_ret ?_)); refine Kr rfl (by repeat' first | exact .nil | apply RV.tmp (v := .int _ _) rfl | apply RV.tmp (v := .bool _) rfl | apply RV.tmp (v := .str _) rfl | apply RV.tmp (v := .sl _ _ _) rfl | apply RV.tmp (v := .agg _) rfl | apply RV.tmp (v := ifD _) rfl | apply RV.tmp (v := DX _ _ _) rfl | apply RV.tmp (v := GN _ _ _ _) rfl | apply RV.tmp (v := .float _ _) rfl | apply RV.tmp (v := .cplx _ _ _) rfl) ?_; first | exact ⟨_, _, .refl _, ok.wh, _, Aq hF, rfl, rfl⟩ | exact ⟨_, _, .refl _, WH.refl _, _, Aq hF, rfl⟩ | (refine ⟨_, _, ?_, ok.wh, _, Aq hF, rfl, rfl⟩; repeat' first | exact .refl _ | exact .zero _ _ _ | exact .nil _ | exact .nil | refine .tupC ?_ | refine .aggC ?_ | refine Wd.toE (.aggC ?_) (none_eq _) | refine .cons ?_ ?_) | (refine ⟨_, _, ?_, WH.refl _, _, Aq hF, rfl⟩; repeat' first | exact .refl _ | exact .zero _ _ _ | exact .nil _ | exact .nil | refine .tupC ?_ | refine .aggC ?_ | refine Wd.toE (.aggC ?_) (none_eq _) | refine .cons ?_ ?_)) : p := h
theorem oy {h : Heap} {O O' : List (Nat × AObj)} (ok : OK h O) (w : WO O O' := by (repeat' first | exact .refl _ | refine .keep ?_ | refine .drop ?_ | exact .nil)) : OK h O' := (w.spec ok).1
theorem hy {h : Heap} {O O' : List (Nat × AObj)} (ok : OK h O) (w : WO O O' := by (repeat' first | exact .refl _ | refine .keep ?_ | refine .drop ?_ | exact .nil)) : WH (Hp h O) (Hp h O') := (w.spec ok).2.2
theorem wy {n : Nat} {l l' : List (Nat × D)} {h : Heap} {O O' : List (Nat × AObj)} (ok : OK h O) (hl : WL n l l' := by (repeat' first | exact .refl _ | exact .zero _ _ _ | exact .nil _ | exact .nil | refine .tupC ?_ | refine .aggC ?_ | refine Wd.toE (.aggC ?_) (none_eq _) | refine .cons ?_ ?_)) (w : WO O O' := by (repeat' first | exact .refl _ | refine .keep ?_ | refine .drop ?_ | exact .nil)) : WS ⟨AG n l, Hp h O⟩ ⟨AG n l', Hp h O'⟩ := WS.mk' hl ok w
theorem okT {ρ β : Type} {P : Program} {g : FuncId} {ds : List D} {H : Heap} {X : Option ρ} {Q : ρ -> D -> Heap -> Prop} {f : ρ -> Option β} {G : β -> Prop} {R : D -> Heap -> Prop} (w : ∀ G : ρ -> Prop, OptP X G -> CallsA P g ds H fun d h' => ∃ r, G r /\ Q r d h') (hF : OptP (X.bind f) G) (hk : ∀ r d h', X = some r -> Q r d h' -> OptP (f r) G -> R d h') : CallsA P g ds H R := by
 obtain ⟨r0, hr, hF⟩ := AZ hF;refine (w (fun r => r = r0) ⟨r0, hr, rfl⟩).mono ?_;rintro d h' ⟨r, rfl, hq⟩;exact hk _ _ _ hr hq hF
section
variable {g n : Prop} (h : n)
include h
theorem xr (s : Bx n -> g := by (intro h; (repeat (first | with_reducible refine Exit.sel_ret ?_ | with_reducible refine Exit.blk_ret ?_ | with_reducible refine Exit.jmp_ret ?_)); exact h.v)) : g := s ⟨h⟩
end
abbrev Zs (h : Heap) (O : List (Nat × AObj)) (n : Nat) (l : List (Nat × D)) (s : St) : Prop := OK h O /\ WS s ⟨AG n l, Hp h O⟩
theorem st_ {P : Program} {md : Nat -> Nat} {w : Bool} {ops : Array Oper} {os : List Oper} {k : St -> Prop} {n : Nat} {l : List (Nat × D)} {h : Heap} {t ty : TypeId} {pos : String} {af : Array Edge} {x y : Operand} {O : List (Nat × AObj)} {i off : Nat} {cs cs' : List D} {v : D} {c : Nat} (j : Nat) (ok : OK h O) (hi : i ≠ 0) (h2 : szD P t = some c) (hk : OK h (O.set j (i, .cells cs')) -> AN P md w ops os ⟨AG n l, Hp h (O.set j (i, .cells cs'))⟩ k) (hx : opL n l x = .ptr i off := by rfl) (hy : opL n l y = v := by rfl) (hj : O[j]? = some (i, .cells cs) := by rfl) (h1 : v.lay = true := by rfl) (hc : v.cells.length = c := by rfl) (h3 : Nat.ble (off + v.cells.length) cs.length = true := by rfl) (h4 : GE cs off v.cells = cs' := by (dsimp only [GE, D.cells, bi, bj, Nat.zero_add, Nat.reduceAdd, List.take_succ_cons, List.take_zero, List.drop_succ_cons, List.drop_zero, List.nil_append, List.cons_append] <;> exact rfl)) : AN P md w ops (⟨none, .store t x y, ty, pos, af, none⟩ :: os) ⟨AG n l, Hp h O⟩ k := Gd ok hx hy hj hi h1 (by rw [h2, hc]) h3 h4 hk
section
variable {g n : Prop} (h : n)
include h
theorem rp (s : Bx n -> g := by (intro h; (repeat (first | with_reducible refine Exit.sel_pan ?_ | with_reducible refine Exit.blk_pan ?_)); exact h.v)) : g := s ⟨h⟩
theorem rr (s : Bx n -> g := by (intro h; (repeat (first | with_reducible refine Exit.sel_ret ?_ | with_reducible refine Exit.blk_ret ?_ | with_reducible refine Exit.jmp_ret ?_)); refine Kr rfl (by repeat' first | exact .nil | apply RV.tmp (v := .int _ _) rfl | apply RV.tmp (v := .bool _) rfl | apply RV.tmp (v := .str _) rfl | apply RV.tmp (v := .sl _ _ _) rfl | apply RV.tmp (v := .agg _) rfl | apply RV.tmp (v := ifD _) rfl | apply RV.tmp (v := DX _ _ _) rfl | apply RV.tmp (v := GN _ _ _ _) rfl | apply RV.tmp (v := .float _ _) rfl | apply RV.tmp (v := .cplx _ _ _) rfl) ?_; exact h.v)) : g := s ⟨h⟩
end
theorem cl {P : Program} {md : Nat -> Nat} {w : Bool} {ops : Array Oper} {os : List Oper} {k : St -> Prop} {n : Nat} {l : List (Nat × D)} {h : Heap} {d : Nat} {ty : TypeId} {pos : String} {af : Array Edge} {g : FuncId} {args : Array Operand} {ts : Array TypeId} {ds : List D} (hc : CallsA P g ds h fun v h' => AN P md w ops os ⟨AG n ((d, v) :: l), h'⟩ k) (hw : WdC (args.toList.map (opL n l)) ds := by (repeat' first | exact .refl _ | exact .zero _ _ _ | exact .nil _ | exact .nil | refine .tupC ?_ | refine .aggC ?_ | refine Wd.toE (.aggC ?_) (none_eq _) | refine .cons ?_ ?_)) : AN P md w ops (⟨some d, .call ⟨.value (.func g), args, ts⟩, ty, pos, af, none⟩ :: os) ⟨AG n l, h⟩ k := RI hc hw
section
variable {g n : Prop} (h : n)
include h
theorem A8 (s : Bx n -> g := by (intro h; refine Lk ?_; exact h.v)) : g := s ⟨h⟩
theorem Ho (s : Bx n -> g := by (intro h; refine MP ?_; exact h.v)) : g := s ⟨h⟩
theorem Ahl (s : Bx n -> g := by (intro h; refine Ac4 ?_; exact h.v)) : g := s ⟨h⟩
theorem LZ (s : Bx n -> g := by (intro h; refine CB (mdl []) ?_; exact h.v)) : g := s ⟨h⟩
theorem Ai4 (s : Bx n -> g := by (intro h; refine Aih rfl rfl (by assumption) ?_; exact h.v)) : g := s ⟨h⟩
theorem Aiv (s : Bx n -> g := by (intro h; refine Air ?_; exact h.v)) : g := s ⟨h⟩
theorem Ais (s : Bx n -> g := by (intro h; refine Aai rfl rfl (by assumption) ?_; exact h.v)) : g := s ⟨h⟩
theorem FI (s : Bx n -> g := by (intro h; refine S_m (v := .int _ _) rfl ?_; exact h.v)) : g := s ⟨h⟩
theorem MW (s : Bx n -> g := by (intro h; refine S_a (v := .int _ _) rfl ?_; exact h.v)) : g := s ⟨h⟩
theorem ZP (s : Bx n -> g := by (intro h; refine S_a (v := .bool _) rfl ?_; exact h.v)) : g := s ⟨h⟩
theorem Ac6 (s : Bx n -> g := by (intro h; refine R3 ?_; exact h.v)) : g := s ⟨h⟩
theorem CZ (s : Bx n -> g := by (intro h; refine S_m (v := .bool _) rfl ?_; exact h.v)) : g := s ⟨h⟩
theorem Dx (s : Bx n -> g := by (intro h; refine OP ?_; exact h.v)) : g := s ⟨h⟩
theorem XX (s : Bx n -> g := by (intro h; refine QE (v := .bool _) rfl (by assumption) rfl ?_; exact h.v)) : g := s ⟨h⟩
theorem W8 (s : Bx n -> g := by (intro h; refine MK (v := .bool _) rfl (by assumption) rfl ?_; exact h.v)) : g := s ⟨h⟩
theorem Aiy (s : Bx n -> g := by (intro h; refine Acd rfl rfl ?_; exact h.v)) : g := s ⟨h⟩
theorem Ts (s : Bx n -> g := by (intro h; refine S_m (v := .ptr _ _) rfl ?_; exact h.v)) : g := s ⟨h⟩
theorem Lw (s : Bx n -> g := by (intro h; refine WF ?_; exact h.v)) : g := s ⟨h⟩
theorem Yg (s : Bx n -> g := by (intro h; refine DG rfl rfl (Ad8 ..) ?_; exact h.v)) : g := s ⟨h⟩
theorem Tq (s : Bx n -> g := by (intro h; refine Xm (v := .ptr _ _) rfl rfl ?_; exact h.v)) : g := s ⟨h⟩
theorem M8 (s : Bx n -> g := by (intro h; refine S_m (v := .sl _ _ _) rfl ?_; exact h.v)) : g := s ⟨h⟩
theorem P1 (s : Bx n -> g := by (intro h; refine DG rfl rfl (Aal ..) ?_; exact h.v)) : g := s ⟨h⟩
theorem Ys (s : Bx n -> g := by (intro h; refine DG rfl rfl (Ab2 ..) ?_; exact h.v)) : g := s ⟨h⟩
theorem RQ (s : Bx n -> g := by (intro h; refine S_m (v := .str _) rfl ?_; exact h.v)) : g := s ⟨h⟩
theorem Ai1 (s : Bx n -> g := by (intro h; refine Y4 ?_; exact h.v)) : g := s ⟨h⟩
theorem Ait (s : Bx n -> g := by (intro h; simp only [Exit.sel, Exit.blk, Exit.jmp, if_true, if_false, reduceIte, Nat.reduceEqDiff, Nat.succ_ne_zero, Nat.zero_ne_one, Nat.one_ne_zero]; exact h.v)) : g := s ⟨h⟩
theorem XW (s : Bx n -> g := by (intro h; refine Aft rfl rfl ?_; exact h.v)) : g := s ⟨h⟩
theorem Aix (s : Bx n -> g := by (intro h; refine Aai rfl rfl rfl ?_; exact h.v)) : g := s ⟨h⟩
theorem TS (s : Bx n -> g := by (intro h; refine Agp rfl (Adb _) ?_; exact h.v)) : g := s ⟨h⟩
theorem W1 (s : Bx n -> g := by (intro h; refine DF rfl L8 Av ?_; exact h.v)) : g := s ⟨h⟩
theorem SI (s : Bx n -> g := by (intro h; refine Cx (j := 0) ok rfl rfl rfl (by assumption) (AJ (v := .int _ _) BZ Av rfl) ?_; exact h.v)) : g := s ⟨h⟩
theorem Sd (s : Bx n -> g := by (intro h; refine DG rfl rfl (Aca ..) ?_; exact h.v)) : g := s ⟨h⟩
theorem Xw (s : Bx n -> g := by (intro h; refine DG rfl rfl (Aa5 ..) ?_; exact h.v)) : g := s ⟨h⟩
theorem S8 (s : Bx n -> g := by (intro h; refine DG rfl rfl (Abd ..) ?_; exact h.v)) : g := s ⟨h⟩
theorem WK (s : Bx n -> g := by (intro h; refine S_a (v := .sl _ _ _) rfl ?_; exact h.v)) : g := s ⟨h⟩
theorem Td (s : Bx n -> g := by (intro h; refine Cx (j := 0) ok rfl rfl rfl (by assumption) (AJ (v := .str _) Bw Ax rfl) ?_; exact h.v)) : g := s ⟨h⟩
theorem Ue (s : Bx n -> g := by (intro h; refine Acr rfl AQ ?_; exact h.v)) : g := s ⟨h⟩
theorem MU (s : Bx n -> g := by (intro h; refine DG rfl rfl (Aa0 ..) ?_; exact h.v)) : g := s ⟨h⟩
theorem Mg (s : Bx n -> g := by (intro h; refine DG rfl rfl Ad1 ?_; exact h.v)) : g := s ⟨h⟩
theorem Q7 (s : Bx n -> g := by (intro h; refine AE rfl (AJ Bw Ax rfl) ?_; exact h.v)) : g := s ⟨h⟩
theorem Ai5 (s : Bx n -> g := by (intro h; refine S_m (v := .tup _) rfl ?_; exact h.v)) : g := s ⟨h⟩
theorem VI (s : Bx n -> g := by (intro h; refine DG rfl rfl (Aar ..) ?_; exact h.v)) : g := s ⟨h⟩
theorem YP (s : Bx n -> g := by (intro h; refine EY rfl DE ?_; exact h.v)) : g := s ⟨h⟩
theorem YT (s : Bx n -> g := by (intro h; refine EY rfl Fy ?_; exact h.v)) : g := s ⟨h⟩
theorem Aip (s : Bx n -> g := by (intro h; refine DF rfl Nq EE ?_; exact h.v)) : g := s ⟨h⟩
theorem ZX (s : Bx n -> g := by (intro h; refine AE rfl (AJ RN GT rfl) ?_; exact h.v)) : g := s ⟨h⟩
theorem Aby (s : Bx n -> g := by (intro h; refine DF rfl Q5 Ax ?_; exact h.v)) : g := s ⟨h⟩
theorem XG (s : Bx n -> g := by (intro h; refine EY rfl FF ?_; exact h.v)) : g := s ⟨h⟩
theorem Tw (s : Bx n -> g := by (intro h; refine S_a (v := .str _) rfl ?_; exact h.v)) : g := s ⟨h⟩
theorem Acy (s : Bx n -> g := by (intro h; refine AS rfl Jr Ax rfl ?_; exact h.v)) : g := s ⟨h⟩
theorem TB (s : Bx n -> g := by (intro h; refine DF rfl Jr Ax ?_; exact h.v)) : g := s ⟨h⟩
theorem Vl (s : Bx n -> g := by (intro h; refine Cx (j := 1) ok rfl rfl rfl (by assumption) (AJ (v := .int _ _) BZ Av rfl) ?_; exact h.v)) : g := s ⟨h⟩
theorem Aio (s : Bx n -> g := by (intro h; refine Cx (j := 2) ok rfl rfl rfl (by assumption) (AJ (v := .sl _ _ _) RR EE rfl) ?_; exact h.v)) : g := s ⟨h⟩
theorem Vm (s : Bx n -> g := by (intro h; refine DF rfl Qy Ax ?_; exact h.v)) : g := s ⟨h⟩
theorem W4 (s : Bx n -> g := by (intro h; refine AS rfl NB GT rfl ?_; exact h.v)) : g := s ⟨h⟩
theorem Wp (s : Bx n -> g := by (intro h; refine Cx (j := 1) ok rfl rfl rfl (by assumption) (AJ (v := .str _) Bw Ax rfl) ?_; exact h.v)) : g := s ⟨h⟩
theorem VB (s : Bx n -> g := by (intro h; refine S_m (v := .fn (.func _) _ _) rfl ?_; exact h.v)) : g := s ⟨h⟩
theorem VH (s : Bx n -> g := by (intro h; refine DF rfl QD Ji ?_; exact h.v)) : g := s ⟨h⟩
theorem Zb (s : Bx n -> g := by (intro h; refine AE rfl (AJ BZ Av rfl) ?_; exact h.v)) : g := s ⟨h⟩
theorem Xy (s : Bx n -> g := by (intro h; refine AS rfl Nz AA rfl ?_; exact h.v)) : g := s ⟨h⟩
theorem Agc (s : Bx n -> g := by (intro h; refine Cx (j := 5) ok rfl rfl rfl (by assumption) (AJ (v := .sl _ _ _) GQ Ei rfl) ?_; exact h.v)) : g := s ⟨h⟩
theorem Yk (s : Bx n -> g := by (intro h; refine DF rfl QW Dj ?_; exact h.v)) : g := s ⟨h⟩
theorem Za (s : Bx n -> g := by (intro h; refine DF rfl Q6 Kl ?_; exact h.v)) : g := s ⟨h⟩
theorem YW (s : Bx n -> g := by (intro h; refine DG rfl rfl Abv ?_; exact h.v)) : g := s ⟨h⟩
theorem Yy (s : Bx n -> g := by (intro h; refine EY rfl Hv ?_; exact h.v)) : g := s ⟨h⟩
theorem ZI (s : Bx n -> g := by (intro h; refine AS rfl HA Ax rfl ?_; exact h.v)) : g := s ⟨h⟩
theorem ZJ (s : Bx n -> g := by (intro h; refine DF rfl Bn Av ?_; exact h.v)) : g := s ⟨h⟩
theorem Ahr (s : Bx n -> g := by (intro h; refine Cx (j := 1) ok rfl rfl rfl (by assumption) (AJ (v := .bool _) LN Bv rfl) ?_; exact h.v)) : g := s ⟨h⟩
theorem ZY (s : Bx n -> g := by (intro h; refine DF rfl HA Ax ?_; exact h.v)) : g := s ⟨h⟩
theorem Afc (s : Bx n -> g := by (intro h; refine Cx (j := 0) ok rfl rfl rfl (by assumption) (AJ (v := .sl _ _ _) MF Ji rfl) ?_; exact h.v)) : g := s ⟨h⟩
theorem Acp (s : Bx n -> g := by (intro h; refine S_a (v := DX _ _ _) rfl ?_; exact h.v)) : g := s ⟨h⟩
theorem Abq (s : Bx n -> g := by (intro h; refine AE rfl (AJ Hl Dj rfl) ?_; exact h.v)) : g := s ⟨h⟩
theorem Ac0 (s : Bx n -> g := by (intro h; refine S_m (v := DX _ _ _) rfl ?_; exact h.v)) : g := s ⟨h⟩
theorem Aem (s : Bx n -> g := by (intro h; refine DF rfl QF Av ?_; exact h.v)) : g := s ⟨h⟩
theorem Aeb (s : Bx n -> g := by (intro h; refine DF rfl Mf Hi ?_; exact h.v)) : g := s ⟨h⟩
theorem Aes (s : Bx n -> g := by (intro h; refine DF rfl Sh Bv ?_; exact h.v)) : g := s ⟨h⟩
theorem Aen (s : Bx n -> g := by (intro h; refine Cx (j := 0) ok rfl rfl rfl (by assumption) (AJ (v := DX _ _ _) Pd Kl rfl) ?_; exact h.v)) : g := s ⟨h⟩
theorem Aed (s : Bx n -> g := by (intro h; refine AS rfl SF Aw rfl ?_; exact h.v)) : g := s ⟨h⟩
theorem Aeu (s : Bx n -> g := by (intro h; refine DF rfl Nz AA ?_; exact h.v)) : g := s ⟨h⟩
theorem Afy (s : Bx n -> g := by (intro h; refine Cx (j := 0) ok rfl rfl rfl (by assumption) (AJ (v := .bool _) LN Bv rfl) ?_; exact h.v)) : g := s ⟨h⟩
theorem Afo (s : Bx n -> g := by (intro h; refine AE rfl (AJ T7 Hi rfl) ?_; exact h.v)) : g := s ⟨h⟩
theorem Agm (s : Bx n -> g := by (intro h; refine AE rfl (AJ LN Bv rfl) ?_; exact h.v)) : g := s ⟨h⟩
theorem Agb (s : Bx n -> g := by (intro h; refine Abg rfl rfl Hv AQ Rb ?_; exact h.v)) : g := s ⟨h⟩
theorem Aia (s : Bx n -> g := by (intro h; refine Cx (j := 2) ok rfl rfl rfl (by assumption) (AJ (v := .bool _) LN Bv rfl) ?_; exact h.v)) : g := s ⟨h⟩
theorem Ah4 (s : Bx n -> g := by (intro h; refine Cx (j := 1) ok rfl rfl rfl (by assumption) (AJ (v := DX _ _ _) Pd Kl rfl) ?_; exact h.v)) : g := s ⟨h⟩
theorem Ahm (s : Bx n -> g := by (intro h; refine Cx (j := 0) ok rfl rfl rfl (by assumption) (AJ (v := .ptr _ _) MA KJ rfl) ?_; exact h.v)) : g := s ⟨h⟩
theorem Ah6 (s : Bx n -> g := by (intro h; refine Cx (j := 1) ok rfl rfl rfl (by assumption) (AJ (v := .ptr _ _) MA KJ rfl) ?_; exact h.v)) : g := s ⟨h⟩
theorem Ah1 (s : Bx n -> g := by (intro h; refine Cx (j := 3) ok rfl rfl rfl (by assumption) (AJ (v := .sl _ _ _) GQ Ei rfl) ?_; exact h.v)) : g := s ⟨h⟩
theorem Ah9 (s : Bx n -> g := by (intro h; refine Cx (j := 1) ok rfl rfl rfl (by assumption) (AJ (v := DX _ _ _) Do Bg rfl) ?_; exact h.v)) : g := s ⟨h⟩
theorem DZ (s : Bx n -> g := by (intro h; refine Ai4 ?_; refine Aiv ?_; exact h.v)) : g := s ⟨h⟩
theorem Tn (s : Bx n -> g := by (intro h; refine Ais ?_; refine Ahl ?_; exact h.v)) : g := s ⟨h⟩
theorem Bm (s : Bx n -> g := by (intro h; refine Ho ?_; refine LZ ?_; exact h.v)) : g := s ⟨h⟩
theorem Bj (s : Bx n -> g := by (intro h; refine A8 ?_; refine DZ ?_; exact h.v)) : g := s ⟨h⟩
theorem Nj (s : Bx n -> g := by (intro h; refine Tn ?_; refine Tn ?_; exact h.v)) : g := s ⟨h⟩
theorem Fm (s : Bx n -> g := by (intro h; refine ZP ?_; refine A8 ?_; exact h.v)) : g := s ⟨h⟩
theorem Jj (s : Bx n -> g := by (intro h; refine MW ?_; refine A8 ?_; exact h.v)) : g := s ⟨h⟩
theorem Tr (s : Bx n -> g := by (intro h; refine XX ?_; refine A8 ?_; exact h.v)) : g := s ⟨h⟩
theorem M0 (s : Bx n -> g := by (intro h; refine W8 ?_; refine A8 ?_; exact h.v)) : g := s ⟨h⟩
theorem Gq (s : Bx n -> g := by (intro h; refine Bm ?_; refine FI ?_; exact h.v)) : g := s ⟨h⟩
theorem Zo (s : Bx n -> g := by (intro h; refine Aiy ?_; refine Ahl ?_; exact h.v)) : g := s ⟨h⟩
theorem Ft (s : Bx n -> g := by (intro h; refine Fm ?_; refine Ac6 ?_; exact h.v)) : g := s ⟨h⟩
theorem RD (s : Bx n -> g := by (intro h; refine FI ?_; refine Bj ?_; exact h.v)) : g := s ⟨h⟩
theorem Ih (s : Bx n -> g := by (intro h; refine Nj ?_; refine Nj ?_; exact h.v)) : g := s ⟨h⟩
theorem IM (s : Bx n -> g := by (intro h; refine A8 ?_; refine Ho ?_; exact h.v)) : g := s ⟨h⟩
theorem MZ (s : Bx n -> g := by (intro h; refine DZ ?_; refine RD ?_; exact h.v)) : g := s ⟨h⟩
theorem Gn (s : Bx n -> g := by (intro h; refine A8 ?_; refine Tr ?_; exact h.v)) : g := s ⟨h⟩
theorem XS (s : Bx n -> g := by (intro h; refine Jj ?_; refine Ac6 ?_; exact h.v)) : g := s ⟨h⟩
theorem Ahn (s : Bx n -> g := by (intro h; refine FI ?_; refine A8 ?_; exact h.v)) : g := s ⟨h⟩
theorem Rw (s : Bx n -> g := by (intro h; refine Nj ?_; refine Tn ?_; exact h.v)) : g := s ⟨h⟩
theorem E9 (s : Bx n -> g := by (intro h; refine Ai1 ?_; refine Ait ?_; exact h.v)) : g := s ⟨h⟩
theorem Wm (s : Bx n -> g := by (intro h; refine Zo ?_; refine Zo ?_; exact h.v)) : g := s ⟨h⟩
theorem Jv (s : Bx n -> g := by (intro h; refine A8 ?_; refine M0 ?_; exact h.v)) : g := s ⟨h⟩
theorem FL (s : Bx n -> g := by (intro h; refine A8 ?_; refine Bm ?_; exact h.v)) : g := s ⟨h⟩
theorem Ahz (s : Bx n -> g := by (intro h; refine Aix ?_; refine Ahl ?_; exact h.v)) : g := s ⟨h⟩
theorem OV (s : Bx n -> g := by (intro h; refine Ts ?_; refine Tq ?_; exact h.v)) : g := s ⟨h⟩
theorem Hj (s : Bx n -> g := by (intro h; refine Bm ?_; refine Ft ?_; exact h.v)) : g := s ⟨h⟩
theorem PL (s : Bx n -> g := by (intro h; refine Dx ?_; refine Ho ?_; exact h.v)) : g := s ⟨h⟩
theorem Kd (s : Bx n -> g := by (intro h; refine Bm ?_; refine M8 ?_; exact h.v)) : g := s ⟨h⟩
theorem HI (s : Bx n -> g := by (intro h; refine Nj ?_; refine M0 ?_; exact h.v)) : g := s ⟨h⟩
theorem JE (s : Bx n -> g := by (intro h; refine Ho ?_; refine Gq ?_; exact h.v)) : g := s ⟨h⟩
theorem Ai6 (s : Bx n -> g := by (intro h; refine Bm ?_; refine Ys ?_; exact h.v)) : g := s ⟨h⟩
theorem Iq (s : Bx n -> g := by (intro h; refine Ai6 ?_; refine IM ?_; exact h.v)) : g := s ⟨h⟩
theorem Aib (s : Bx n -> g := by (intro h; refine LZ ?_; refine P1 ?_; exact h.v)) : g := s ⟨h⟩
theorem MX (s : Bx n -> g := by (intro h; refine Aib ?_; refine Ahn ?_; exact h.v)) : g := s ⟨h⟩
theorem NS (s : Bx n -> g := by (intro h; refine Ahn ?_; refine Lw ?_; exact h.v)) : g := s ⟨h⟩
theorem XT (s : Bx n -> g := by (intro h; refine CZ ?_; refine A8 ?_; exact h.v)) : g := s ⟨h⟩
theorem Rg (s : Bx n -> g := by (intro h; refine MW ?_; refine Jj ?_; exact h.v)) : g := s ⟨h⟩
theorem Jz (s : Bx n -> g := by (intro h; refine Ts ?_; refine A8 ?_; exact h.v)) : g := s ⟨h⟩
theorem Mm (s : Bx n -> g := by (intro h; refine Bm ?_; refine RQ ?_; exact h.v)) : g := s ⟨h⟩
theorem Nr (s : Bx n -> g := by (intro h; refine Bm ?_; refine Fm ?_; exact h.v)) : g := s ⟨h⟩
theorem OC (s : Bx n -> g := by (intro h; refine Bm ?_; refine XS ?_; exact h.v)) : g := s ⟨h⟩
theorem OW (s : Bx n -> g := by (intro h; refine MW ?_; refine XS ?_; exact h.v)) : g := s ⟨h⟩
theorem Aht (s : Bx n -> g := by (intro h; refine Tr ?_; refine A8 ?_; exact h.v)) : g := s ⟨h⟩
theorem Ahx (s : Bx n -> g := by (intro h; refine M0 ?_; refine A8 ?_; exact h.v)) : g := s ⟨h⟩
theorem Lq (s : Bx n -> g := by (intro h; refine A8 ?_; refine Ac6 ?_; exact h.v)) : g := s ⟨h⟩
theorem SN (s : Bx n -> g := by (intro h; refine LZ ?_; refine FI ?_; exact h.v)) : g := s ⟨h⟩
theorem X1 (s : Bx n -> g := by (intro h; refine PL ?_; refine Lw ?_; exact h.v)) : g := s ⟨h⟩
theorem X8 (s : Bx n -> g := by (intro h; refine Ahz ?_; refine Ahz ?_; exact h.v)) : g := s ⟨h⟩
theorem Acb (s : Bx n -> g := by (intro h; refine Yg ?_; refine Fm ?_; exact h.v)) : g := s ⟨h⟩
theorem N4 (s : Bx n -> g := by (intro h; refine Bj ?_; refine XT ?_; exact h.v)) : g := s ⟨h⟩
theorem QI (s : Bx n -> g := by (intro h; refine Bj ?_; refine Yg ?_; exact h.v)) : g := s ⟨h⟩
theorem Y5 (s : Bx n -> g := by (intro h; refine OV ?_; refine W1 ?_; exact h.v)) : g := s ⟨h⟩
theorem LD (s : Bx n -> g := by (intro h; refine Nj ?_; refine Tr ?_; exact h.v)) : g := s ⟨h⟩
theorem Xi (s : Bx n -> g := by (intro h; refine MZ ?_; refine Yg ?_; exact h.v)) : g := s ⟨h⟩
theorem Ahp (s : Bx n -> g := by (intro h; refine XW ?_; refine XW ?_; exact h.v)) : g := s ⟨h⟩
theorem Qj (s : Bx n -> g := by (intro h; refine Yg ?_; refine CZ ?_; exact h.v)) : g := s ⟨h⟩
theorem Aaa (s : Bx n -> g := by (intro h; refine RQ ?_; refine Bj ?_; exact h.v)) : g := s ⟨h⟩
theorem Afw (s : Bx n -> g := by (intro h; refine Ai5 ?_; refine Ahp ?_; exact h.v)) : g := s ⟨h⟩
theorem L0 (s : Bx n -> g := by (intro h; refine Rw ?_; refine Tr ?_; exact h.v)) : g := s ⟨h⟩
theorem Qh (s : Bx n -> g := by (intro h; refine Bm ?_; refine Acb ?_; exact h.v)) : g := s ⟨h⟩
theorem MY (s : Bx n -> g := by (intro h; refine Bm ?_; refine Ts ?_; exact h.v)) : g := s ⟨h⟩
theorem Ah3 (s : Bx n -> g := by (intro h; refine MZ ?_; refine S8 ?_; exact h.v)) : g := s ⟨h⟩
theorem Yz (s : Bx n -> g := by (intro h; refine Wm ?_; refine Wm ?_; exact h.v)) : g := s ⟨h⟩
theorem Tu (s : Bx n -> g := by (intro h; refine DZ ?_; refine Ahx ?_; exact h.v)) : g := s ⟨h⟩
theorem Tk (s : Bx n -> g := by (intro h; refine Bm ?_; refine Jj ?_; exact h.v)) : g := s ⟨h⟩
theorem Qf (s : Bx n -> g := by (intro h; refine Gq ?_; refine FI ?_; exact h.v)) : g := s ⟨h⟩
theorem Ps (s : Bx n -> g := by (intro h; refine Ys ?_; refine A8 ?_; exact h.v)) : g := s ⟨h⟩
theorem N1 (s : Bx n -> g := by (intro h; refine DZ ?_; refine Aaa ?_; exact h.v)) : g := s ⟨h⟩
theorem Tm (s : Bx n -> g := by (intro h; refine Y5 ?_; refine SI ?_; exact h.v)) : g := s ⟨h⟩
theorem Ae5 (s : Bx n -> g := by (intro h; refine Ts ?_; refine Bj ?_; exact h.v)) : g := s ⟨h⟩
theorem ZS (s : Bx n -> g := by (intro h; refine P1 ?_; refine Jj ?_; exact h.v)) : g := s ⟨h⟩
theorem OY (s : Bx n -> g := by (intro h; refine Fm ?_; refine Bm ?_; exact h.v)) : g := s ⟨h⟩
theorem OZ (s : Bx n -> g := by (intro h; refine Rw ?_; refine M0 ?_; exact h.v)) : g := s ⟨h⟩
theorem Ahy (s : Bx n -> g := by (intro h; refine Tq ?_; refine Bj ?_; exact h.v)) : g := s ⟨h⟩
theorem Qi (s : Bx n -> g := by (intro h; refine Dx ?_; refine MX ?_; exact h.v)) : g := s ⟨h⟩
theorem PS (s : Bx n -> g := by (intro h; refine Xi ?_; refine Jv ?_; exact h.v)) : g := s ⟨h⟩
theorem Ab9 (s : Bx n -> g := by (intro h; refine M8 ?_; refine Bj ?_; exact h.v)) : g := s ⟨h⟩
theorem Abu (s : Bx n -> g := by (intro h; refine Ae5 ?_; refine Ahy ?_; exact h.v)) : g := s ⟨h⟩
theorem VA (s : Bx n -> g := by (intro h; refine Tn ?_; refine Tr ?_; exact h.v)) : g := s ⟨h⟩
theorem Aet (s : Bx n -> g := by (intro h; refine Bj ?_; refine TS ?_; exact h.v)) : g := s ⟨h⟩
theorem QM (s : Bx n -> g := by (intro h; refine Xw ?_; refine A8 ?_; exact h.v)) : g := s ⟨h⟩
theorem Q8 (s : Bx n -> g := by (intro h; refine Yg ?_; refine A8 ?_; exact h.v)) : g := s ⟨h⟩
theorem Ael (s : Bx n -> g := by (intro h; refine Sd ?_; refine CZ ?_; exact h.v)) : g := s ⟨h⟩
theorem Xz (s : Bx n -> g := by (intro h; refine Bj ?_; refine Aht ?_; exact h.v)) : g := s ⟨h⟩
theorem Vt (s : Bx n -> g := by (intro h; refine DZ ?_; refine Aht ?_; exact h.v)) : g := s ⟨h⟩
theorem X5 (s : Bx n -> g := by (intro h; refine Ho ?_; refine Bm ?_; exact h.v)) : g := s ⟨h⟩
theorem Ry (s : Bx n -> g := by (intro h; refine X1 ?_; refine Ho ?_; exact h.v)) : g := s ⟨h⟩
theorem Rh (s : Bx n -> g := by (intro h; refine Lw ?_; refine Ho ?_; exact h.v)) : g := s ⟨h⟩
theorem RW (s : Bx n -> g := by (intro h; refine Aip ?_; refine A8 ?_; exact h.v)) : g := s ⟨h⟩
theorem Ri (s : Bx n -> g := by (intro h; refine WK ?_; refine A8 ?_; exact h.v)) : g := s ⟨h⟩
theorem Aiw (s : Bx n -> g := by (intro h; refine Bj ?_; refine Td ?_; exact h.v)) : g := s ⟨h⟩
theorem SB (s : Bx n -> g := by (intro h; refine Aiw ?_; refine Bj ?_; exact h.v)) : g := s ⟨h⟩
theorem S6 (s : Bx n -> g := by (intro h; refine Ih ?_; refine Ih ?_; exact h.v)) : g := s ⟨h⟩
theorem Ss (s : Bx n -> g := by (intro h; refine Ah3 ?_; refine Gn ?_; exact h.v)) : g := s ⟨h⟩
theorem S9 (s : Bx n -> g := by (intro h; refine SN ?_; refine ZS ?_; exact h.v)) : g := s ⟨h⟩
theorem S0 (s : Bx n -> g := by (intro h; refine Ih ?_; refine Tr ?_; exact h.v)) : g := s ⟨h⟩
theorem XV (s : Bx n -> g := by (intro h; refine Afw ?_; refine XW ?_; exact h.v)) : g := s ⟨h⟩
theorem Aac (s : Bx n -> g := by (intro h; refine A8 ?_; refine Lw ?_; exact h.v)) : g := s ⟨h⟩
theorem Sj (s : Bx n -> g := by (intro h; refine DZ ?_; refine Ab9 ?_; exact h.v)) : g := s ⟨h⟩
theorem To (s : Bx n -> g := by (intro h; refine DZ ?_; refine Abu ?_; exact h.v)) : g := s ⟨h⟩
theorem Tj (s : Bx n -> g := by (intro h; refine Gq ?_; refine Ael ?_; exact h.v)) : g := s ⟨h⟩
theorem Ti (s : Bx n -> g := by (intro h; refine Tn ?_; refine M0 ?_; exact h.v)) : g := s ⟨h⟩
theorem Tl (s : Bx n -> g := by (intro h; refine YP ?_; refine NS ?_; exact h.v)) : g := s ⟨h⟩
theorem Tt (s : Bx n -> g := by (intro h; refine QI ?_; refine Gn ?_; exact h.v)) : g := s ⟨h⟩
theorem Vh (s : Bx n -> g := by (intro h; refine TS ?_; refine A8 ?_; exact h.v)) : g := s ⟨h⟩
theorem UV (s : Bx n -> g := by (intro h; refine Tq ?_; refine W1 ?_; exact h.v)) : g := s ⟨h⟩
theorem Aer (s : Bx n -> g := by (intro h; refine Rw ?_; refine Wm ?_; exact h.v)) : g := s ⟨h⟩
theorem UH (s : Bx n -> g := by (intro h; refine X8 ?_; refine X8 ?_; exact h.v)) : g := s ⟨h⟩
theorem U2 (s : Bx n -> g := by (intro h; refine Dx ?_; refine Lw ?_; exact h.v)) : g := s ⟨h⟩
theorem Ain (s : Bx n -> g := by (intro h; refine Bj ?_; refine Q7 ?_; exact h.v)) : g := s ⟨h⟩
theorem Ad9 (s : Bx n -> g := by (intro h; refine Ain ?_; refine Bj ?_; exact h.v)) : g := s ⟨h⟩
theorem Vp (s : Bx n -> g := by (intro h; refine Bj ?_; refine SI ?_; exact h.v)) : g := s ⟨h⟩
theorem Vj (s : Bx n -> g := by (intro h; refine Dx ?_; refine Hj ?_; exact h.v)) : g := s ⟨h⟩
theorem Vr (s : Bx n -> g := by (intro h; refine Dx ?_; refine Bm ?_; exact h.v)) : g := s ⟨h⟩
theorem Vi (s : Bx n -> g := by (intro h; refine TS ?_; refine CZ ?_; exact h.v)) : g := s ⟨h⟩
theorem Vn (s : Bx n -> g := by (intro h; refine Bj ?_; refine Ahx ?_; exact h.v)) : g := s ⟨h⟩
theorem Vs (s : Bx n -> g := by (intro h; refine Aio ?_; refine A8 ?_; exact h.v)) : g := s ⟨h⟩
theorem Af2 (s : Bx n -> g := by (intro h; refine Gq ?_; refine Jj ?_; exact h.v)) : g := s ⟨h⟩
theorem Vo (s : Bx n -> g := by (intro h; refine Ih ?_; refine M0 ?_; exact h.v)) : g := s ⟨h⟩
theorem V7 (s : Bx n -> g := by (intro h; refine OV ?_; refine Aby ?_; exact h.v)) : g := s ⟨h⟩
theorem WV (s : Bx n -> g := by (intro h; refine Ys ?_; refine CZ ?_; exact h.v)) : g := s ⟨h⟩
theorem Ah8 (s : Bx n -> g := by (intro h; refine MZ ?_; refine Sd ?_; exact h.v)) : g := s ⟨h⟩
theorem We (s : Bx n -> g := by (intro h; refine Nj ?_; refine Tu ?_; exact h.v)) : g := s ⟨h⟩
theorem V3 (s : Bx n -> g := by (intro h; refine FI ?_; refine P1 ?_; exact h.v)) : g := s ⟨h⟩
theorem Vz (s : Bx n -> g := by (intro h; refine Afw ?_; refine Rg ?_; exact h.v)) : g := s ⟨h⟩
theorem V4 (s : Bx n -> g := by (intro h; refine MW ?_; refine Rg ?_; exact h.v)) : g := s ⟨h⟩
theorem WM (s : Bx n -> g := by (intro h; refine MW ?_; refine Ft ?_; exact h.v)) : g := s ⟨h⟩
theorem Ws (s : Bx n -> g := by (intro h; refine Gq ?_; refine Qj ?_; exact h.v)) : g := s ⟨h⟩
theorem Wc (s : Bx n -> g := by (intro h; refine Ue ?_; refine Bj ?_; exact h.v)) : g := s ⟨h⟩
theorem VO (s : Bx n -> g := by (intro h; refine MU ?_; refine Bj ?_; exact h.v)) : g := s ⟨h⟩
theorem Zi (s : Bx n -> g := by (intro h; refine Kd ?_; refine YT ?_; exact h.v)) : g := s ⟨h⟩
theorem X2 (s : Bx n -> g := by (intro h; refine Aer ?_; refine VA ?_; exact h.v)) : g := s ⟨h⟩
theorem XF (s : Bx n -> g := by (intro h; refine Ah8 ?_; refine N4 ?_; exact h.v)) : g := s ⟨h⟩
theorem XA (s : Bx n -> g := by (intro h; refine Ah3 ?_; refine Xz ?_; exact h.v)) : g := s ⟨h⟩
theorem XN (s : Bx n -> g := by (intro h; refine Aet ?_; refine Jv ?_; exact h.v)) : g := s ⟨h⟩
theorem YI (s : Bx n -> g := by (intro h; refine Gq ?_; refine XS ?_; exact h.v)) : g := s ⟨h⟩
theorem Xq (s : Bx n -> g := by (intro h; refine Wm ?_; refine Zo ?_; exact h.v)) : g := s ⟨h⟩
theorem Xd (s : Bx n -> g := by (intro h; refine X1 ?_; refine Af2 ?_; exact h.v)) : g := s ⟨h⟩
theorem XJ (s : Bx n -> g := by (intro h; refine M8 ?_; refine FI ?_; exact h.v)) : g := s ⟨h⟩
theorem Xv (s : Bx n -> g := by (intro h; refine MW ?_; refine OW ?_; exact h.v)) : g := s ⟨h⟩
theorem W2 (s : Bx n -> g := by (intro h; refine VI ?_; refine Jv ?_; exact h.v)) : g := s ⟨h⟩
theorem W5 (s : Bx n -> g := by (intro h; refine Aac ?_; refine Qh ?_; exact h.v)) : g := s ⟨h⟩
theorem Xc (s : Bx n -> g := by (intro h; refine Xw ?_; refine CZ ?_; exact h.v)) : g := s ⟨h⟩
theorem Ah5 (s : Bx n -> g := by (intro h; refine Acy ?_; refine Ad9 ?_; exact h.v)) : g := s ⟨h⟩
theorem Xp (s : Bx n -> g := by (intro h; refine Yz ?_; refine Yz ?_; exact h.v)) : g := s ⟨h⟩
theorem Y0 (s : Bx n -> g := by (intro h; refine Td ?_; refine Ue ?_; exact h.v)) : g := s ⟨h⟩
theorem YK (s : Bx n -> g := by (intro h; refine Bj ?_; refine RD ?_; exact h.v)) : g := s ⟨h⟩
theorem Yw (s : Bx n -> g := by (intro h; refine Bm ?_; refine Tm ?_; exact h.v)) : g := s ⟨h⟩
theorem ZB (s : Bx n -> g := by (intro h; refine Bm ?_; refine OV ?_; exact h.v)) : g := s ⟨h⟩
theorem Ye (s : Bx n -> g := by (intro h; refine JE ?_; refine FI ?_; exact h.v)) : g := s ⟨h⟩
theorem ZU (s : Bx n -> g := by (intro h; refine Fm ?_; refine X5 ?_; exact h.v)) : g := s ⟨h⟩
theorem Zy (s : Bx n -> g := by (intro h; refine Bm ?_; refine OW ?_; exact h.v)) : g := s ⟨h⟩
theorem ZD (s : Bx n -> g := by (intro h; refine CZ ?_; refine CZ ?_; exact h.v)) : g := s ⟨h⟩
theorem Zz (s : Bx n -> g := by (intro h; refine IM ?_; refine Bm ?_; exact h.v)) : g := s ⟨h⟩
theorem Aab (s : Bx n -> g := by (intro h; refine VI ?_; refine A8 ?_; exact h.v)) : g := s ⟨h⟩
theorem Z1 (s : Bx n -> g := by (intro h; refine Kd ?_; refine FI ?_; exact h.v)) : g := s ⟨h⟩
theorem YG (s : Bx n -> g := by (intro h; refine Tk ?_; refine Lw ?_; exact h.v)) : g := s ⟨h⟩
theorem Yr (s : Bx n -> g := by (intro h; refine DZ ?_; refine Ah5 ?_; exact h.v)) : g := s ⟨h⟩
theorem Aec (s : Bx n -> g := by (intro h; refine Dx ?_; refine OC ?_; exact h.v)) : g := s ⟨h⟩
theorem Ai2 (s : Bx n -> g := by (intro h; refine Bj ?_; refine ZX ?_; exact h.v)) : g := s ⟨h⟩
theorem YA (s : Bx n -> g := by (intro h; refine Ai2 ?_; refine Bj ?_; exact h.v)) : g := s ⟨h⟩
theorem Aep (s : Bx n -> g := by (intro h; refine Afc ?_; refine EY rfl Ht ?_; exact h.v)) : g := s ⟨h⟩
theorem Aeh (s : Bx n -> g := by (intro h; refine Kd ?_; refine EY rfl Dp ?_; exact h.v)) : g := s ⟨h⟩
theorem Aad (s : Bx n -> g := by (intro h; refine Nr ?_; refine Ho ?_; exact h.v)) : g := s ⟨h⟩
theorem ZK (s : Bx n -> g := by (intro h; refine MZ ?_; refine Ys ?_; exact h.v)) : g := s ⟨h⟩
theorem Aag (s : Bx n -> g := by (intro h; refine Mg ?_; refine A8 ?_; exact h.v)) : g := s ⟨h⟩
theorem Z8 (s : Bx n -> g := by (intro h; refine Aet ?_; refine Gn ?_; exact h.v)) : g := s ⟨h⟩
theorem ZR (s : Bx n -> g := by (intro h; refine Rw ?_; refine Vt ?_; exact h.v)) : g := s ⟨h⟩
theorem Z0 (s : Bx n -> g := by (intro h; refine XG ?_; refine NS ?_; exact h.v)) : g := s ⟨h⟩
theorem ZO (s : Bx n -> g := by (intro h; refine Mm ?_; refine FI ?_; exact h.v)) : g := s ⟨h⟩
theorem ZQ (s : Bx n -> g := by (intro h; refine Dx ?_; refine SN ?_; exact h.v)) : g := s ⟨h⟩
theorem ZZ (s : Bx n -> g := by (intro h; refine Bj ?_; refine Xw ?_; exact h.v)) : g := s ⟨h⟩
theorem Aie (s : Bx n -> g := by (intro h; refine XV ?_; refine WK ?_; exact h.v)) : g := s ⟨h⟩
theorem Z3 (s : Bx n -> g := by (intro h; refine Aie ?_; refine Rg ?_; exact h.v)) : g := s ⟨h⟩
theorem Aaf (s : Bx n -> g := by (intro h; refine Yg ?_; refine Ft ?_; exact h.v)) : g := s ⟨h⟩
theorem Aah (s : Bx n -> g := by (intro h; refine Agc ?_; refine A8 ?_; exact h.v)) : g := s ⟨h⟩
theorem ZT (s : Bx n -> g := by (intro h; refine WK ?_; refine Lq ?_; exact h.v)) : g := s ⟨h⟩
theorem Z4 (s : Bx n -> g := by (intro h; refine Nr ?_; refine Mm ?_; exact h.v)) : g := s ⟨h⟩
theorem ZN (s : Bx n -> g := by (intro h; refine RQ ?_; refine Ue ?_; exact h.v)) : g := s ⟨h⟩
theorem Z6 (s : Bx n -> g := by (intro h; refine Ahr ?_; refine CZ ?_; exact h.v)) : g := s ⟨h⟩
end
end Go.Proofs.YtmnbjcpikllknaaGreatDoor
