/- Short words for the walks. No condition. -/
import Derived.Test.YtjofelloaofooaaGreatDoorTy
import Derived.Test.YtjofelloaofooaaGreatDoorPf
set_option linter.unusedVariables false
namespace Go.Proofs.YtjofelloaofooaaGreatDoor
structure Bx (n : Prop) : Prop where
 v : n
theorem ws {p : Prop} (h : p := by (repeat (first | with_reducible exact WS.refl _ | refine WS.add ?_ rfl | exact WS.refl _))) : p := h
theorem tw {p : Prop} (h : p := by (refine ⟨_, hF, .hd (.refl _) ?_⟩; repeat (first | with_reducible exact WS.refl _ | refine WS.add ?_ rfl | exact WS.refl _))) : p := h
theorem th {p : Prop} (h : p := by (first | refine .hd (Ad1 (by assumption)) ?_ | refine .hd (Ad4 (by assumption)) ?_ | refine .hd (ZT (by assumption)) ?_ | refine .hd (Z7 (by assumption)) ?_); (repeat (first | with_reducible exact WS.refl _ | refine WS.add ?_ rfl | exact WS.refl _))) : p := h
theorem rt {p : Prop} (h : p := by (repeat (first | with_reducible refine Exit.sel_ret ?_ | with_reducible refine Exit.blk_ret ?_ | with_reducible refine Exit.jmp_ret ?_)); refine Mj rfl (by repeat' first | exact .nil | apply RV.tmp (v := .int _ _) rfl | apply RV.tmp (v := .bool _) rfl | apply RV.tmp (v := .str _) rfl | apply RV.tmp (v := .sl _ _ _) rfl | apply RV.tmp (v := .agg _) rfl | apply RV.tmp (v := ifD _) rfl | apply RV.tmp (v := EC _ _ _) rfl | apply RV.tmp (v := Acn _ _ _ _) rfl | apply RV.tmp (v := .float _ _) rfl | apply RV.tmp (v := .cplx _ _ _) rfl) ?_; first | exact ⟨_, _, .refl _, ok.wh, _, Ar hF, rfl, rfl⟩ | exact ⟨_, _, .refl _, WH.refl _, _, Ar hF, rfl⟩ | (refine ⟨_, _, ?_, ok.wh, _, Ar hF, rfl, rfl⟩; repeat' first | exact .refl _ | exact .zero _ _ _ | exact .nil _ | exact .nil | refine .tupC ?_ | refine .aggC ?_ | refine Wd.toE (.aggC ?_) (none_eq _) | refine .cons ?_ ?_) | (refine ⟨_, _, ?_, WH.refl _, _, Ar hF, rfl⟩; repeat' first | exact .refl _ | exact .zero _ _ _ | exact .nil _ | exact .nil | refine .tupC ?_ | refine .aggC ?_ | refine Wd.toE (.aggC ?_) (none_eq _) | refine .cons ?_ ?_)) : p := h
theorem oy {h : Heap} {O O' : List (Nat × AObj)} (ok : OK h O) (w : WO O O' := by (repeat' first | exact .refl _ | refine .keep ?_ | refine .drop ?_ | exact .nil)) : OK h O' := (w.spec ok).1
theorem hy {h : Heap} {O O' : List (Nat × AObj)} (ok : OK h O) (w : WO O O' := by (repeat' first | exact .refl _ | refine .keep ?_ | refine .drop ?_ | exact .nil)) : WH (Hp h O) (Hp h O') := (w.spec ok).2.2
theorem wy {n : Nat} {l l' : List (Nat × D)} {h : Heap} {O O' : List (Nat × AObj)} (ok : OK h O) (hl : WL n l l' := by (repeat' first | exact .refl _ | exact .zero _ _ _ | exact .nil _ | exact .nil | refine .tupC ?_ | refine .aggC ?_ | refine Wd.toE (.aggC ?_) (none_eq _) | refine .cons ?_ ?_)) (w : WO O O' := by (repeat' first | exact .refl _ | refine .keep ?_ | refine .drop ?_ | exact .nil)) : WS ⟨AK n l, Hp h O⟩ ⟨AK n l', Hp h O'⟩ := WS.mk' hl ok w
theorem okT {ρ β : Type} {P : Program} {g : FuncId} {ds : List D} {H : Heap} {X : Option ρ} {Q : ρ -> D -> Heap -> Prop} {f : ρ -> Option β} {G : β -> Prop} {R : D -> Heap -> Prop} (w : ∀ G : ρ -> Prop, OptP X G -> CallsA P g ds H fun d h' => ∃ r, G r /\ Q r d h') (hF : OptP (X.bind f) G) (hk : ∀ r d h', X = some r -> Q r d h' -> OptP (f r) G -> R d h') : CallsA P g ds H R := by
 obtain ⟨r0, hr, hF⟩ := AM hF;refine (w (fun r => r = r0) ⟨r0, hr, rfl⟩).mono ?_;rintro d h' ⟨r, rfl, hq⟩;exact hk _ _ _ hr hq hF
section
variable {g n : Prop} (h : n)
include h
theorem xr (s : Bx n -> g := by (intro h; (repeat (first | with_reducible refine Exit.sel_ret ?_ | with_reducible refine Exit.blk_ret ?_ | with_reducible refine Exit.jmp_ret ?_)); exact h.v)) : g := s ⟨h⟩
end
abbrev Zs (h : Heap) (O : List (Nat × AObj)) (n : Nat) (l : List (Nat × D)) (s : St) : Prop := OK h O /\ WS s ⟨AK n l, Hp h O⟩
theorem st_ {P : Program} {md : Nat -> Nat} {w : Bool} {ops : Array Oper} {os : List Oper} {k : St -> Prop} {n : Nat} {l : List (Nat × D)} {h : Heap} {t ty : TypeId} {pos : String} {af : Array Edge} {x y : Operand} {O : List (Nat × AObj)} {i off : Nat} {cs cs' : List D} {v : D} {c : Nat} (j : Nat) (ok : OK h O) (hi : i ≠ 0) (h2 : szD P t = some c) (hk : OK h (O.set j (i, .cells cs')) -> AY P md w ops os ⟨AK n l, Hp h (O.set j (i, .cells cs'))⟩ k) (hx : opL n l x = .ptr i off := by rfl) (hy : opL n l y = v := by rfl) (hj : O[j]? = some (i, .cells cs) := by rfl) (h1 : v.lay = true := by rfl) (hc : v.cells.length = c := by rfl) (h3 : Nat.ble (off + v.cells.length) cs.length = true := by rfl) (h4 : Fx cs off v.cells = cs' := by (dsimp only [Fx, D.cells, bi, bj, Nat.zero_add, Nat.reduceAdd, List.take_succ_cons, List.take_zero, List.drop_succ_cons, List.drop_zero, List.nil_append, List.cons_append] <;> exact rfl)) : AY P md w ops (⟨none, .store t x y, ty, pos, af, none⟩ :: os) ⟨AK n l, Hp h O⟩ k := HS ok hx hy hj hi h1 (by rw [h2, hc]) h3 h4 hk
section
variable {g n : Prop} (h : n)
include h
theorem rp (s : Bx n -> g := by (intro h; (repeat (first | with_reducible refine Exit.sel_pan ?_ | with_reducible refine Exit.blk_pan ?_)); exact h.v)) : g := s ⟨h⟩
theorem rr (s : Bx n -> g := by (intro h; (repeat (first | with_reducible refine Exit.sel_ret ?_ | with_reducible refine Exit.blk_ret ?_ | with_reducible refine Exit.jmp_ret ?_)); refine Mj rfl (by repeat' first | exact .nil | apply RV.tmp (v := .int _ _) rfl | apply RV.tmp (v := .bool _) rfl | apply RV.tmp (v := .str _) rfl | apply RV.tmp (v := .sl _ _ _) rfl | apply RV.tmp (v := .agg _) rfl | apply RV.tmp (v := ifD _) rfl | apply RV.tmp (v := EC _ _ _) rfl | apply RV.tmp (v := Acn _ _ _ _) rfl | apply RV.tmp (v := .float _ _) rfl | apply RV.tmp (v := .cplx _ _ _) rfl) ?_; exact h.v)) : g := s ⟨h⟩
end
theorem cl {P : Program} {md : Nat -> Nat} {w : Bool} {ops : Array Oper} {os : List Oper} {k : St -> Prop} {n : Nat} {l : List (Nat × D)} {h : Heap} {d : Nat} {ty : TypeId} {pos : String} {af : Array Edge} {g : FuncId} {args : Array Operand} {ts : Array TypeId} {ds : List D} (hc : CallsA P g ds h fun v h' => AY P md w ops os ⟨AK n ((d, v) :: l), h'⟩ k) (hw : WdC (args.toList.map (opL n l)) ds := by (repeat' first | exact .refl _ | exact .zero _ _ _ | exact .nil _ | exact .nil | refine .tupC ?_ | refine .aggC ?_ | refine Wd.toE (.aggC ?_) (none_eq _) | refine .cons ?_ ?_)) : AY P md w ops (⟨some d, .call ⟨.value (.func g), args, ts⟩, ty, pos, af, none⟩ :: os) ⟨AK n l, h⟩ k := Fp hc hw
section
variable {g n : Prop} (h : n)
include h
theorem C1 (s : Bx n -> g := by (intro h; refine E3 ?_; exact h.v)) : g := s ⟨h⟩
theorem IR (s : Bx n -> g := by (intro h; refine Fw ?_; exact h.v)) : g := s ⟨h⟩
theorem Zo (s : Bx n -> g := by (intro h; refine XI ?_; exact h.v)) : g := s ⟨h⟩
theorem MO (s : Bx n -> g := by (intro h; refine Ce (mdl []) ?_; exact h.v)) : g := s ⟨h⟩
theorem Aej (s : Bx n -> g := by (intro h; refine Aev rfl rfl (by assumption) ?_; exact h.v)) : g := s ⟨h⟩
theorem Ad8 (s : Bx n -> g := by (intro h; refine Adp ?_; exact h.v)) : g := s ⟨h⟩
theorem Aei (s : Bx n -> g := by (intro h; refine WZ rfl rfl (by assumption) ?_; exact h.v)) : g := s ⟨h⟩
theorem H8 (s : Bx n -> g := by (intro h; refine S_m (v := .int _ _) rfl ?_; exact h.v)) : g := s ⟨h⟩
theorem Aeu (s : Bx n -> g := by (intro h; refine S_a (v := .bool _) rfl ?_; exact h.v)) : g := s ⟨h⟩
theorem N2 (s : Bx n -> g := by (intro h; refine S_a (v := .int _ _) rfl ?_; exact h.v)) : g := s ⟨h⟩
theorem SZ (s : Bx n -> g := by (intro h; refine Ps ?_; exact h.v)) : g := s ⟨h⟩
theorem D3 (s : Bx n -> g := by (intro h; refine S_m (v := .bool _) rfl ?_; exact h.v)) : g := s ⟨h⟩
theorem Eh (s : Bx n -> g := by (intro h; refine IT ?_; exact h.v)) : g := s ⟨h⟩
theorem Abr (s : Bx n -> g := by (intro h; refine Ru (v := .bool _) rfl (by assumption) rfl ?_; exact h.v)) : g := s ⟨h⟩
theorem Z2 (s : Bx n -> g := by (intro h; refine Wi (v := .bool _) rfl (by assumption) rfl ?_; exact h.v)) : g := s ⟨h⟩
theorem Adb (s : Bx n -> g := by (intro h; refine XK rfl rfl ?_; exact h.v)) : g := s ⟨h⟩
theorem JJ (s : Bx n -> g := by (intro h; refine Ke ?_; exact h.v)) : g := s ⟨h⟩
theorem IZ (s : Bx n -> g := by (intro h; refine S_m (v := .str _) rfl ?_; exact h.v)) : g := s ⟨h⟩
theorem Uz (s : Bx n -> g := by (intro h; refine Eg rfl rfl (NA ..) ?_; exact h.v)) : g := s ⟨h⟩
theorem Qy (s : Bx n -> g := by (intro h; refine Eg rfl rfl (U4 ..) ?_; exact h.v)) : g := s ⟨h⟩
theorem Md (s : Bx n -> g := by (intro h; refine S_m (v := .sl _ _ _) rfl ?_; exact h.v)) : g := s ⟨h⟩
theorem Aan (s : Bx n -> g := by (intro h; refine Eg rfl rfl (Vd ..) ?_; exact h.v)) : g := s ⟨h⟩
theorem Adf (s : Bx n -> g := by (intro h; refine RT ?_; exact h.v)) : g := s ⟨h⟩
theorem Ad3 (s : Bx n -> g := by (intro h; simp only [Exit.sel, Exit.blk, Exit.jmp, if_true, if_false, reduceIte, Nat.reduceEqDiff, Nat.succ_ne_zero, Nat.zero_ne_one, Nat.one_ne_zero]; exact h.v)) : g := s ⟨h⟩
theorem OI (s : Bx n -> g := by (intro h; refine Ap rfl (Az AP Ak rfl) ?_; exact h.v)) : g := s ⟨h⟩
theorem Ad7 (s : Bx n -> g := by (intro h; refine S_a (v := .str _) rfl ?_; exact h.v)) : g := s ⟨h⟩
theorem UH (s : Bx n -> g := by (intro h; refine Ab6 rfl rfl ?_; exact h.v)) : g := s ⟨h⟩
theorem UM (s : Bx n -> g := by (intro h; refine Eg rfl rfl (X9 ..) ?_; exact h.v)) : g := s ⟨h⟩
theorem UT (s : Bx n -> g := by (intro h; refine Aem rfl (Yr _) ?_; exact h.v)) : g := s ⟨h⟩
theorem TF (s : Bx n -> g := by (intro h; refine Eg rfl rfl (Yt ..) ?_; exact h.v)) : g := s ⟨h⟩
theorem Ub (s : Bx n -> g := by (intro h; refine KS rfl Ck ?_; exact h.v)) : g := s ⟨h⟩
theorem R1 (s : Bx n -> g := by (intro h; refine XX rfl Bs ?_; exact h.v)) : g := s ⟨h⟩
theorem Xo (s : Bx n -> g := by (intro h; refine Eg rfl rfl (Uy ..) ?_; exact h.v)) : g := s ⟨h⟩
theorem YP (s : Bx n -> g := by (intro h; refine S_a (v := .sl _ _ _) rfl ?_; exact h.v)) : g := s ⟨h⟩
theorem K5 (s : Bx n -> g := by (intro h; refine Eg rfl rfl XT ?_; exact h.v)) : g := s ⟨h⟩
theorem U8 (s : Bx n -> g := by (intro h; refine S_m (v := .ptr _ _) rfl ?_; exact h.v)) : g := s ⟨h⟩
theorem PH (s : Bx n -> g := by (intro h; refine S_m (v := EC _ _ _) rfl ?_; exact h.v)) : g := s ⟨h⟩
theorem SL (s : Bx n -> g := by (intro h; refine KS rfl DZ ?_; exact h.v)) : g := s ⟨h⟩
theorem Uc (s : Bx n -> g := by (intro h; refine Eg rfl rfl (Vb ..) ?_; exact h.v)) : g := s ⟨h⟩
theorem QS (s : Bx n -> g := by (intro h; refine Eg rfl rfl Um ?_; exact h.v)) : g := s ⟨h⟩
theorem Acp (s : Bx n -> g := by (intro h; refine Ax rfl FC Ak rfl ?_; exact h.v)) : g := s ⟨h⟩
theorem Pe (s : Bx n -> g := by (intro h; refine Eg rfl rfl (X5 ..) ?_; exact h.v)) : g := s ⟨h⟩
theorem Qw (s : Bx n -> g := by (intro h; refine S_a (v := EC _ _ _) rfl ?_; exact h.v)) : g := s ⟨h⟩
theorem Aeg (s : Bx n -> g := by (intro h; refine S_m (v := .tup _) rfl ?_; exact h.v)) : g := s ⟨h⟩
theorem Aam (s : Bx n -> g := by (intro h; refine Ax rfl EL Ak rfl ?_; exact h.v)) : g := s ⟨h⟩
theorem Xp (s : Bx n -> g := by (intro h; refine KS rfl CB ?_; exact h.v)) : g := s ⟨h⟩
theorem RF (s : Bx n -> g := by (intro h; refine Ej (j := 0) ok rfl rfl rfl (by assumption) (Az (v := .str _) AP Ak rfl) ?_; exact h.v)) : g := s ⟨h⟩
theorem TI (s : Bx n -> g := by (intro h; refine Ej (j := 0) ok rfl rfl rfl (by assumption) (Az (v := .int _ _) CL AQ rfl) ?_; exact h.v)) : g := s ⟨h⟩
theorem TO (s : Bx n -> g := by (intro h; refine Iv rfl AZ Au ?_; exact h.v)) : g := s ⟨h⟩
theorem UI (s : Bx n -> g := by (intro h; refine Iv rfl LF AV ?_; exact h.v)) : g := s ⟨h⟩
theorem VF (s : Bx n -> g := by (intro h; refine S_m (v := .fn (.func _) _ _) rfl ?_; exact h.v)) : g := s ⟨h⟩
theorem VI (s : Bx n -> g := by (intro h; refine KS rfl Ff ?_; exact h.v)) : g := s ⟨h⟩
theorem Wo (s : Bx n -> g := by (intro h; refine Iv rfl Bd AQ ?_; exact h.v)) : g := s ⟨h⟩
theorem Xm (s : Bx n -> g := by (intro h; refine Ax rfl LF AV rfl ?_; exact h.v)) : g := s ⟨h⟩
theorem Abd (s : Bx n -> g := by (intro h; refine Pl (v := .ptr _ _) rfl rfl ?_; exact h.v)) : g := s ⟨h⟩
theorem Adq (s : Bx n -> g := by (intro h; refine Ej (j := 1) ok rfl rfl rfl (by assumption) (Az (v := .bool _) R9 DB rfl) ?_; exact h.v)) : g := s ⟨h⟩
theorem Y1 (s : Bx n -> g := by (intro h; refine Iv rfl FC Ak ?_; exact h.v)) : g := s ⟨h⟩
theorem Zm (s : Bx n -> g := by (intro h; refine YC rfl rfl Ff Bs KX ?_; exact h.v)) : g := s ⟨h⟩
theorem Adr (s : Bx n -> g := by (intro h; refine Iv rfl Ik J1 ?_; exact h.v)) : g := s ⟨h⟩
theorem Zj (s : Bx n -> g := by (intro h; refine Iv rfl Jz Ak ?_; exact h.v)) : g := s ⟨h⟩
theorem Zy (s : Bx n -> g := by (intro h; refine Ej (j := 2) ok rfl rfl rfl (by assumption) (Az (v := .sl _ _ _) BF Au rfl) ?_; exact h.v)) : g := s ⟨h⟩
theorem Z8 (s : Bx n -> g := by (intro h; refine LI rfl (Aa9 Ff KX Bs) ?_; exact h.v)) : g := s ⟨h⟩
theorem Ac0 (s : Bx n -> g := by (intro h; refine Ej (j := 3) ok rfl rfl rfl (by assumption) (Az (v := .sl _ _ _) BF Au rfl) ?_; exact h.v)) : g := s ⟨h⟩
theorem BL (s : Bx n -> g := by (intro h; refine IR ?_; refine MO ?_; exact h.v)) : g := s ⟨h⟩
theorem EH (s : Bx n -> g := by (intro h; refine Aej ?_; refine Ad8 ?_; exact h.v)) : g := s ⟨h⟩
theorem WR (s : Bx n -> g := by (intro h; refine Aei ?_; refine Zo ?_; exact h.v)) : g := s ⟨h⟩
theorem BQ (s : Bx n -> g := by (intro h; refine C1 ?_; refine EH ?_; exact h.v)) : g := s ⟨h⟩
theorem LK (s : Bx n -> g := by (intro h; refine WR ?_; refine WR ?_; exact h.v)) : g := s ⟨h⟩
theorem Fs (s : Bx n -> g := by (intro h; refine Aeu ?_; refine C1 ?_; exact h.v)) : g := s ⟨h⟩
theorem MI (s : Bx n -> g := by (intro h; refine Abr ?_; refine C1 ?_; exact h.v)) : g := s ⟨h⟩
theorem K7 (s : Bx n -> g := by (intro h; refine Z2 ?_; refine C1 ?_; exact h.v)) : g := s ⟨h⟩
theorem Zu (s : Bx n -> g := by (intro h; refine Adb ?_; refine Zo ?_; exact h.v)) : g := s ⟨h⟩
theorem IA (s : Bx n -> g := by (intro h; refine N2 ?_; refine C1 ?_; exact h.v)) : g := s ⟨h⟩
theorem GI (s : Bx n -> g := by (intro h; refine BL ?_; refine H8 ?_; exact h.v)) : g := s ⟨h⟩
theorem E7 (s : Bx n -> g := by (intro h; refine Fs ?_; refine SZ ?_; exact h.v)) : g := s ⟨h⟩
theorem Acx (s : Bx n -> g := by (intro h; refine H8 ?_; refine C1 ?_; exact h.v)) : g := s ⟨h⟩
theorem QD (s : Bx n -> g := by (intro h; refine H8 ?_; refine BQ ?_; exact h.v)) : g := s ⟨h⟩
theorem Xu (s : Bx n -> g := by (intro h; refine Zu ?_; refine Zu ?_; exact h.v)) : g := s ⟨h⟩
theorem Li (s : Bx n -> g := by (intro h; refine EH ?_; refine QD ?_; exact h.v)) : g := s ⟨h⟩
theorem EI (s : Bx n -> g := by (intro h; refine Adf ?_; refine Ad3 ?_; exact h.v)) : g := s ⟨h⟩
theorem K6 (s : Bx n -> g := by (intro h; refine Aan ?_; refine C1 ?_; exact h.v)) : g := s ⟨h⟩
theorem LN (s : Bx n -> g := by (intro h; refine LK ?_; refine WR ?_; exact h.v)) : g := s ⟨h⟩
theorem IW (s : Bx n -> g := by (intro h; refine C1 ?_; refine K7 ?_; exact h.v)) : g := s ⟨h⟩
theorem Qu (s : Bx n -> g := by (intro h; refine IA ?_; refine SZ ?_; exact h.v)) : g := s ⟨h⟩
theorem Jw (s : Bx n -> g := by (intro h; refine C1 ?_; refine MI ?_; exact h.v)) : g := s ⟨h⟩
theorem U6 (s : Bx n -> g := by (intro h; refine Eh ?_; refine IR ?_; exact h.v)) : g := s ⟨h⟩
theorem Lp (s : Bx n -> g := by (intro h; refine LK ?_; refine LK ?_; exact h.v)) : g := s ⟨h⟩
theorem Adl (s : Bx n -> g := by (intro h; refine MO ?_; refine Qy ?_; exact h.v)) : g := s ⟨h⟩
theorem Np (s : Bx n -> g := by (intro h; refine Adl ?_; refine Acx ?_; exact h.v)) : g := s ⟨h⟩
theorem G5 (s : Bx n -> g := by (intro h; refine BL ?_; refine E7 ?_; exact h.v)) : g := s ⟨h⟩
theorem I0 (s : Bx n -> g := by (intro h; refine BL ?_; refine IZ ?_; exact h.v)) : g := s ⟨h⟩
theorem Aep (s : Bx n -> g := by (intro h; refine BL ?_; refine K6 ?_; exact h.v)) : g := s ⟨h⟩
theorem GG (s : Bx n -> g := by (intro h; refine Aep ?_; refine IR ?_; exact h.v)) : g := s ⟨h⟩
theorem JN (s : Bx n -> g := by (intro h; refine Ad7 ?_; refine C1 ?_; exact h.v)) : g := s ⟨h⟩
theorem Wr (s : Bx n -> g := by (intro h; refine Acx ?_; refine JJ ?_; exact h.v)) : g := s ⟨h⟩
theorem WB (s : Bx n -> g := by (intro h; refine U6 ?_; refine JJ ?_; exact h.v)) : g := s ⟨h⟩
theorem JF (s : Bx n -> g := by (intro h; refine IR ?_; refine GI ?_; exact h.v)) : g := s ⟨h⟩
theorem Jm (s : Bx n -> g := by (intro h; refine BL ?_; refine Md ?_; exact h.v)) : g := s ⟨h⟩
theorem TP (s : Bx n -> g := by (intro h; refine D3 ?_; refine C1 ?_; exact h.v)) : g := s ⟨h⟩
theorem Ji (s : Bx n -> g := by (intro h; refine C1 ?_; refine BL ?_; exact h.v)) : g := s ⟨h⟩
theorem Tn (s : Bx n -> g := by (intro h; refine IZ ?_; refine BQ ?_; exact h.v)) : g := s ⟨h⟩
theorem MH (s : Bx n -> g := by (intro h; refine MO ?_; refine H8 ?_; exact h.v)) : g := s ⟨h⟩
theorem Yq (s : Bx n -> g := by (intro h; refine Uz ?_; refine Fs ?_; exact h.v)) : g := s ⟨h⟩
theorem Ac6 (s : Bx n -> g := by (intro h; refine MI ?_; refine C1 ?_; exact h.v)) : g := s ⟨h⟩
theorem Acq (s : Bx n -> g := by (intro h; refine K7 ?_; refine C1 ?_; exact h.v)) : g := s ⟨h⟩
theorem JG (s : Bx n -> g := by (intro h; refine LK ?_; refine K7 ?_; exact h.v)) : g := s ⟨h⟩
theorem NB (s : Bx n -> g := by (intro h; refine BL ?_; refine Fs ?_; exact h.v)) : g := s ⟨h⟩
theorem PC (s : Bx n -> g := by (intro h; refine BL ?_; refine Yq ?_; exact h.v)) : g := s ⟨h⟩
theorem Qt (s : Bx n -> g := by (intro h; refine BQ ?_; refine TP ?_; exact h.v)) : g := s ⟨h⟩
theorem Un (s : Bx n -> g := by (intro h; refine Xu ?_; refine Xu ?_; exact h.v)) : g := s ⟨h⟩
theorem Lj (s : Bx n -> g := by (intro h; refine WB ?_; refine IR ?_; exact h.v)) : g := s ⟨h⟩
theorem K8 (s : Bx n -> g := by (intro h; refine LK ?_; refine MI ?_; exact h.v)) : g := s ⟨h⟩
theorem K4 (s : Bx n -> g := by (intro h; refine EH ?_; refine Tn ?_; exact h.v)) : g := s ⟨h⟩
theorem UG (s : Bx n -> g := by (intro h; refine BQ ?_; refine Uz ?_; exact h.v)) : g := s ⟨h⟩
theorem Ld (s : Bx n -> g := by (intro h; refine BL ?_; refine Qu ?_; exact h.v)) : g := s ⟨h⟩
theorem Acz (s : Bx n -> g := by (intro h; refine Li ?_; refine TF ?_; exact h.v)) : g := s ⟨h⟩
theorem Qz (s : Bx n -> g := by (intro h; refine EH ?_; refine Acq ?_; exact h.v)) : g := s ⟨h⟩
theorem MK (s : Bx n -> g := by (intro h; refine Ub ?_; refine Wr ?_; exact h.v)) : g := s ⟨h⟩
theorem LV (s : Bx n -> g := by (intro h; refine LN ?_; refine MI ?_; exact h.v)) : g := s ⟨h⟩
theorem SO (s : Bx n -> g := by (intro h; refine N2 ?_; refine IA ?_; exact h.v)) : g := s ⟨h⟩
theorem MN (s : Bx n -> g := by (intro h; refine YP ?_; refine C1 ?_; exact h.v)) : g := s ⟨h⟩
theorem SD (s : Bx n -> g := by (intro h; refine BL ?_; refine IA ?_; exact h.v)) : g := s ⟨h⟩
theorem NE (s : Bx n -> g := by (intro h; refine Eh ?_; refine Np ?_; exact h.v)) : g := s ⟨h⟩
theorem OE (s : Bx n -> g := by (intro h; refine IR ?_; refine BL ?_; exact h.v)) : g := s ⟨h⟩
theorem Ack (s : Bx n -> g := by (intro h; refine Li ?_; refine Uz ?_; exact h.v)) : g := s ⟨h⟩
theorem Zw (s : Bx n -> g := by (intro h; refine Qy ?_; refine IA ?_; exact h.v)) : g := s ⟨h⟩
theorem NT (s : Bx n -> g := by (intro h; refine JN ?_; refine SZ ?_; exact h.v)) : g := s ⟨h⟩
theorem N5 (s : Bx n -> g := by (intro h; refine Ack ?_; refine IW ?_; exact h.v)) : g := s ⟨h⟩
theorem Zn (s : Bx n -> g := by (intro h; refine UM ?_; refine D3 ?_; exact h.v)) : g := s ⟨h⟩
theorem UR (s : Bx n -> g := by (intro h; refine BQ ?_; refine Ac6 ?_; exact h.v)) : g := s ⟨h⟩
theorem Ow (s : Bx n -> g := by (intro h; refine LN ?_; refine K7 ?_; exact h.v)) : g := s ⟨h⟩
theorem SF (s : Bx n -> g := by (intro h; refine N2 ?_; refine Qu ?_; exact h.v)) : g := s ⟨h⟩
theorem O3 (s : Bx n -> g := by (intro h; refine Fs ?_; refine BL ?_; exact h.v)) : g := s ⟨h⟩
theorem Xe (s : Bx n -> g := by (intro h; refine Md ?_; refine BQ ?_; exact h.v)) : g := s ⟨h⟩
theorem Adc (s : Bx n -> g := by (intro h; refine BQ ?_; refine OI ?_; exact h.v)) : g := s ⟨h⟩
theorem Wt (s : Bx n -> g := by (intro h; refine Adc ?_; refine BQ ?_; exact h.v)) : g := s ⟨h⟩
theorem PM (s : Bx n -> g := by (intro h; refine C1 ?_; refine Np ?_; exact h.v)) : g := s ⟨h⟩
theorem UU (s : Bx n -> g := by (intro h; refine Uz ?_; refine D3 ?_; exact h.v)) : g := s ⟨h⟩
theorem Qq (s : Bx n -> g := by (intro h; refine Acz ?_; refine Jw ?_; exact h.v)) : g := s ⟨h⟩
theorem PV (s : Bx n -> g := by (intro h; refine Lp ?_; refine MI ?_; exact h.v)) : g := s ⟨h⟩
theorem Acj (s : Bx n -> g := by (intro h; refine UH ?_; refine UH ?_; exact h.v)) : g := s ⟨h⟩
theorem PZ (s : Bx n -> g := by (intro h; refine MH ?_; refine Zw ?_; exact h.v)) : g := s ⟨h⟩
theorem XP (s : Bx n -> g := by (intro h; refine C1 ?_; refine JJ ?_; exact h.v)) : g := s ⟨h⟩
theorem QB (s : Bx n -> g := by (intro h; refine GI ?_; refine Zn ?_; exact h.v)) : g := s ⟨h⟩
theorem Zl (s : Bx n -> g := by (intro h; refine Xu ?_; refine WR ?_; exact h.v)) : g := s ⟨h⟩
theorem Wv (s : Bx n -> g := by (intro h; refine BQ ?_; refine UT ?_; exact h.v)) : g := s ⟨h⟩
theorem Vi (s : Bx n -> g := by (intro h; refine Aeg ?_; refine Acj ?_; exact h.v)) : g := s ⟨h⟩
theorem QC (s : Bx n -> g := by (intro h; refine EH ?_; refine Ac6 ?_; exact h.v)) : g := s ⟨h⟩
theorem ZO (s : Bx n -> g := by (intro h; refine WB ?_; refine GI ?_; exact h.v)) : g := s ⟨h⟩
theorem Ss (s : Bx n -> g := by (intro h; refine Lp ?_; refine K7 ?_; exact h.v)) : g := s ⟨h⟩
theorem Sa (s : Bx n -> g := by (intro h; refine Uz ?_; refine C1 ?_; exact h.v)) : g := s ⟨h⟩
theorem SI (s : Bx n -> g := by (intro h; refine C1 ?_; refine IR ?_; exact h.v)) : g := s ⟨h⟩
theorem SC (s : Bx n -> g := by (intro h; refine SL ?_; refine Wr ?_; exact h.v)) : g := s ⟨h⟩
theorem SB (s : Bx n -> g := by (intro h; refine LK ?_; refine Qz ?_; exact h.v)) : g := s ⟨h⟩
theorem SH (s : Bx n -> g := by (intro h; refine GI ?_; refine H8 ?_; exact h.v)) : g := s ⟨h⟩
theorem SK (s : Bx n -> g := by (intro h; refine Aam ?_; refine OI ?_; exact h.v)) : g := s ⟨h⟩
theorem SG (s : Bx n -> g := by (intro h; refine JF ?_; refine H8 ?_; exact h.v)) : g := s ⟨h⟩
theorem SJ (s : Bx n -> g := by (intro h; refine UG ?_; refine Jw ?_; exact h.v)) : g := s ⟨h⟩
theorem Zt (s : Bx n -> g := by (intro h; refine MO ?_; refine U8 ?_; exact h.v)) : g := s ⟨h⟩
theorem Tm (s : Bx n -> g := by (intro h; refine ZO ?_; refine IA ?_; exact h.v)) : g := s ⟨h⟩
theorem Ac2 (s : Bx n -> g := by (intro h; refine Zl ?_; refine MI ?_; exact h.v)) : g := s ⟨h⟩
theorem Ac3 (s : Bx n -> g := by (intro h; refine Li ?_; refine UM ?_; exact h.v)) : g := s ⟨h⟩
theorem SW (s : Bx n -> g := by (intro h; refine Eh ?_; refine JJ ?_; exact h.v)) : g := s ⟨h⟩
theorem T6 (s : Bx n -> g := by (intro h; refine SD ?_; refine JJ ?_; exact h.v)) : g := s ⟨h⟩
theorem ST (s : Bx n -> g := by (intro h; refine NB ?_; refine I0 ?_; exact h.v)) : g := s ⟨h⟩
theorem S8 (s : Bx n -> g := by (intro h; refine EH ?_; refine Xe ?_; exact h.v)) : g := s ⟨h⟩
theorem Tc (s : Bx n -> g := by (intro h; refine Un ?_; refine Un ?_; exact h.v)) : g := s ⟨h⟩
theorem Zk (s : Bx n -> g := by (intro h; refine Zu ?_; refine WR ?_; exact h.v)) : g := s ⟨h⟩
theorem Ue (s : Bx n -> g := by (intro h; refine Md ?_; refine H8 ?_; exact h.v)) : g := s ⟨h⟩
theorem VD (s : Bx n -> g := by (intro h; refine XP ?_; refine PC ?_; exact h.v)) : g := s ⟨h⟩
theorem UY (s : Bx n -> g := by (intro h; refine Eh ?_; refine G5 ?_; exact h.v)) : g := s ⟨h⟩
theorem Ve (s : Bx n -> g := by (intro h; refine R1 ?_; refine BQ ?_; exact h.v)) : g := s ⟨h⟩
theorem Ur (s : Bx n -> g := by (intro h; refine LN ?_; refine Ac2 ?_; exact h.v)) : g := s ⟨h⟩
theorem UX (s : Bx n -> g := by (intro h; refine Ac3 ?_; refine Qt ?_; exact h.v)) : g := s ⟨h⟩
theorem Uh (s : Bx n -> g := by (intro h; refine Acz ?_; refine UR ?_; exact h.v)) : g := s ⟨h⟩
theorem VV (s : Bx n -> g := by (intro h; refine Xo ?_; refine C1 ?_; exact h.v)) : g := s ⟨h⟩
theorem Acu (s : Bx n -> g := by (intro h; refine Acp ?_; refine Wt ?_; exact h.v)) : g := s ⟨h⟩
theorem UB (s : Bx n -> g := by (intro h; refine IZ ?_; refine R1 ?_; exact h.v)) : g := s ⟨h⟩
theorem Uq (s : Bx n -> g := by (intro h; refine Acp ?_; refine OI ?_; exact h.v)) : g := s ⟨h⟩
theorem UZ (s : Bx n -> g := by (intro h; refine BL ?_; refine PH ?_; exact h.v)) : g := s ⟨h⟩
theorem Up (s : Bx n -> g := by (intro h; refine C1 ?_; refine SZ ?_; exact h.v)) : g := s ⟨h⟩
theorem YO (s : Bx n -> g := by (intro h; refine Zo ?_; refine WZ rfl rfl rfl ?_; exact h.v)) : g := s ⟨h⟩
theorem Vq (s : Bx n -> g := by (intro h; refine Xo ?_; refine D3 ?_; exact h.v)) : g := s ⟨h⟩
theorem Vj (s : Bx n -> g := by (intro h; refine Jm ?_; refine H8 ?_; exact h.v)) : g := s ⟨h⟩
theorem Wb (s : Bx n -> g := by (intro h; refine EH ?_; refine Acu ?_; exact h.v)) : g := s ⟨h⟩
theorem WJ (s : Bx n -> g := by (intro h; refine I0 ?_; refine H8 ?_; exact h.v)) : g := s ⟨h⟩
theorem VJ (s : Bx n -> g := by (intro h; refine UT ?_; refine C1 ?_; exact h.v)) : g := s ⟨h⟩
theorem VH (s : Bx n -> g := by (intro h; refine Xp ?_; refine Wr ?_; exact h.v)) : g := s ⟨h⟩
theorem Xx (s : Bx n -> g := by (intro h; refine GI ?_; refine UU ?_; exact h.v)) : g := s ⟨h⟩
theorem Xb (s : Bx n -> g := by (intro h; refine D3 ?_; refine D3 ?_; exact h.v)) : g := s ⟨h⟩
theorem YL (s : Bx n -> g := by (intro h; refine Uc ?_; refine C1 ?_; exact h.v)) : g := s ⟨h⟩
theorem Xv (s : Bx n -> g := by (intro h; refine Uc ?_; refine IW ?_; exact h.v)) : g := s ⟨h⟩
theorem Xa (s : Bx n -> g := by (intro h; refine Wv ?_; refine IW ?_; exact h.v)) : g := s ⟨h⟩
theorem Xg (s : Bx n -> g := by (intro h; refine N2 ?_; refine SO ?_; exact h.v)) : g := s ⟨h⟩
theorem Xn (s : Bx n -> g := by (intro h; refine Aan ?_; refine D3 ?_; exact h.v)) : g := s ⟨h⟩
theorem Xk (s : Bx n -> g := by (intro h; refine Vi ?_; refine SO ?_; exact h.v)) : g := s ⟨h⟩
theorem Xj (s : Bx n -> g := by (intro h; refine H8 ?_; refine Qy ?_; exact h.v)) : g := s ⟨h⟩
theorem Xs (s : Bx n -> g := by (intro h; refine BL ?_; refine SF ?_; exact h.v)) : g := s ⟨h⟩
theorem Xq (s : Bx n -> g := by (intro h; refine UT ?_; refine D3 ?_; exact h.v)) : g := s ⟨h⟩
theorem Xt (s : Bx n -> g := by (intro h; refine Lp ?_; refine LK ?_; exact h.v)) : g := s ⟨h⟩
theorem YB (s : Bx n -> g := by (intro h; refine QS ?_; refine C1 ?_; exact h.v)) : g := s ⟨h⟩
theorem Xw (s : Bx n -> g := by (intro h; refine UG ?_; refine Qt ?_; exact h.v)) : g := s ⟨h⟩
theorem Xf (s : Bx n -> g := by (intro h; refine BQ ?_; refine Acq ?_; exact h.v)) : g := s ⟨h⟩
theorem Xd (s : Bx n -> g := by (intro h; refine Xu ?_; refine Zk ?_; exact h.v)) : g := s ⟨h⟩
theorem Xc (s : Bx n -> g := by (intro h; refine BQ ?_; refine Xo ?_; exact h.v)) : g := s ⟨h⟩
theorem Xr (s : Bx n -> g := by (intro h; refine Adq ?_; refine D3 ?_; exact h.v)) : g := s ⟨h⟩
end
end Go.Proofs.YtjofelloaofooaaGreatDoor
