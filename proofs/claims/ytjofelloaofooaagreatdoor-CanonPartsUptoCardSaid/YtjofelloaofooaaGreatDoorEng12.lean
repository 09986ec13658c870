/- The rules of the code, loops, jumps, and a function's call. No condition. -/
import Derived.ScopeJumps
import Derived.Test.YtjofelloaofooaaGreatDoorEng11
set_option linter.unusedSimpArgs false
set_option linter.unusedVariables false
namespace Go.Proofs.YtjofelloaofooaaGreatDoor
variable {df : List Deferred}
def Exit.sel (n : St -> Prop) (Q : Exit -> St -> Prop) : Exit -> St -> Prop
 | .normal, s => n s
 | e, s => Q e s
def Exit.blk (id : Nat) (Q : Exit -> St -> Prop) : Exit -> St -> Prop
 | .exit id', s => if id' = id then Q .normal s else Q (.exit id') s
 | e, s => Q e s
section
variable {P : Program} {Q : Exit -> St -> Prop} {s : St}
theorem Tn {c : Code} {Q' : Exit -> St -> Prop} (h : WP P c Q s) (hq : ∀ e s, Q e s -> Q' e s) : WP P c Q' s :=
 fun df K a w S => Code.wp_mono (fun e a w ⟨K', s', E, S', q⟩ => ⟨K', s', E, S', hq _ _ q⟩) (h df K a w S)
theorem GZ (h : Q .normal s) : WP P .skip Q s := fun df K a w S => wp_skip ⟨K, s, Ext.refl K, S, h⟩
theorem OR {id : Nat} (h : Q (.exit id) s) : WP P (.exit id) Q s := fun df K a w S => wp_exit ⟨K, s, Ext.refl K, S, h⟩
theorem SL {l : Nat} (h : Q (.goto l) s) : WP P (.goto l) Q s := fun df K a w S => wp_goto ⟨K, s, Ext.refl K, S, h⟩
theorem Mw (h : Q .ret s) : WP P .ret Q s := fun df K a w S => wp_ret ⟨K, s, Ext.refl K, S, h⟩
theorem Pq {x y : Code} (h : WP P x (Exit.sel (WP P y Q) Q) s) : WP P (.seq x y) Q s := fun df K a w S =>
 wp_seq (Code.wp_mono (fun e a' w' ⟨K', s', E, S', q⟩ => by
  cases e with
  | normal => exact Code.wp_mono (fun e a w h => PostS.ext E h) (q df K' a' w' S')
  | _ => exact ⟨K', s', E, S', q⟩) (h df K a w S))
theorem TU {K : Kn} {a : Act} {w : World} (S : Sim df K s a w) {c : Operand} {t : Bool} (hc : opD s.sl c = .bool t) : a.eval c = .bool t := by
 have := S.eval c;rw [hc] at this;generalize a.eval c = q at this;cases this; rfl
def Pk (d : D) (x y : Prop) : Prop := match d with
 | .bool t => if t = true then x else y
 | _ => False
theorem LD {c : Operand} {x y : Code} (h : Pk (opD s.sl c) (WP P x Q s) (WP P y Q s)) : WP P (.cond c x y) Q s := by
 unfold Pk at h;split at h
 ·rename_i t hc;intro df K a w S;refine wp_cond (TU S hc) ?_;cases t
  ·exact h df K a w S
  ·exact h df K a w S
 ·exact h.elim
theorem Ii {id : Nat} {c : Code} (h : WP P c (Exit.blk id Q) s) : WP P (.block id c) Q s := fun df K a w S =>
 wp_block (Code.wp_mono (fun e a' w' ⟨K', s', E, S', q⟩ => by
  cases e with
  | exit id' =>
   simp only [Exit.blk] at q;simp only [Exit.inBlock];split
   ·rename_i hid; rw [if_pos hid] at q; exact ⟨K', s', E, S', q⟩
   ·rename_i hid; rw [if_neg hid] at q; exact ⟨K', s', E, S', q⟩
  | _ => exact ⟨K', s', E, S', q⟩) (h df K a w S))
def LW (P : Program) (c : Code) (Q : Exit -> St -> Prop) (s : St) : Prop := ∀ (df : List Deferred) (K : Kn) (a : Act) (w : World), Sim df K s a w -> ∀ (b : Frame) (k : List Item) (cs : List Frame),
 ∃ e a' w', PostS df K Q e a' w' /\ Arrives P (lone (b.at a (.code c :: .inLoop c :: k)) cs w) b k cs e a' w'
theorem Tv {c : Code} (h : LW P c Q s) : WP P (.loop c) Q s := fun df K a w S b k cs =>
 let ⟨e, a', w', hq, harr⟩ := h df K a w S b k cs
 ⟨e, a', w', hq, .of_steps (.one step_loop) harr⟩
theorem LW_step {c : Code} (h : WP P c (Exit.sel (LW P c Q) Q) s) : LW P c Q s := by
 intro df K a w S b k cs;obtain ⟨e, a₁, w₁, ⟨K', s', E, S', q⟩, harr⟩ := h df K a w S b (.inLoop c :: k) cs
 cases e with
 | normal =>
  obtain ⟨e₂, a₂, w₂, hq₂, harr₂⟩ := q df K' a₁ w₁ S' b k cs;exact ⟨e₂, a₂, w₂, PostS.ext E hq₂, .of_steps (Steps.trans harr (.one step_inLoop)) harr₂⟩
 | exit id => exact ⟨_, a₁, w₁, ⟨K', s', E, S', q⟩, .pass (x := .inLoop c) rfl (fun _ _ => .inl (by simp)) harr⟩
 | goto l => exact ⟨_, a₁, w₁, ⟨K', s', E, S', q⟩, .pass (x := .inLoop c) rfl (fun _ _ => .inl (by simp)) harr⟩
 | ret => exact ⟨_, a₁, w₁, ⟨K', s', E, S', q⟩, .pass (x := .inLoop c) rfl (fun _ _ => .inl (by simp)) harr⟩
 | panic ch => exact ⟨_, a₁, w₁, ⟨K', s', E, S', q⟩, .pass (x := .inLoop c) rfl (fun _ _ => .inl (by simp)) harr⟩
 | outgrown => exact ⟨_, a₁, w₁, ⟨K', s', E, S', q⟩, .pass (x := .inLoop c) rfl (fun _ _ => .inl (by simp)) harr⟩
def JW (P : Program) (body c : Code) (Q : Exit -> St -> Prop) (s : St) : Prop := ∀ (df : List Deferred) (K : Kn) (a : Act) (w : World), Sim df K s a w -> ∀ (b : Frame) (k : List Item) (cs : List Frame),
 ∃ e a' w', PostS df K Q e a' w' /\ Arrives P (lone (b.at a (.code c :: .inScope body :: k)) cs w) b k cs e a' w'
theorem QV {c : Code} (h : JW P c c Q s) : WP P (.scope c) Q s := fun df K a w S b k cs =>
 let ⟨e, a', w', hq, harr⟩ := h df K a w S b k cs
 ⟨e, a', w', hq, .of_steps (.one step_scope) harr⟩
def Exit.jmp (P : Program) (body : Code) (Q : Exit -> St -> Prop) : Exit -> St -> Prop
 | .goto l, s => match findLabel body l with
  | some rest => JW P body rest Q s
  | none => Q (.goto l) s
 | e, s => Q e s
theorem JW_step {body c : Code} (h : WP P c (Exit.jmp P body Q) s) : JW P body c Q s := by
 intro df K a w S b k cs;obtain ⟨e, a₁, w₁, ⟨K', s', E, S', q⟩, harr⟩ := h df K a w S b (.inScope body :: k) cs
 cases e with
 | normal => exact ⟨.normal, a₁, w₁, ⟨K', s', E, S', q⟩, Steps.trans harr (.one step_inScope)⟩
 | exit id => exact ⟨.exit id, a₁, w₁, ⟨K', s', E, S', q⟩, fun k' hk => harr k' (by simp [exitTo, hk])⟩
 | goto l =>
  simp only [Exit.jmp] at q
  cases hf : findLabel body l with
  | some rest =>
   rw [hf] at q;obtain ⟨e₂, a₂, w₂, hq₂, harr₂⟩ := q df K' a₁ w₁ S' b k cs;have hg : gotoIn l (.inScope body :: k) = some (.code rest :: .inScope body :: k) := by simp [gotoIn, hf]
   exact ⟨e₂, a₂, w₂, PostS.ext E hq₂, .of_steps (harr _ hg) harr₂⟩
  | none =>
   rw [hf] at q;exact ⟨.goto l, a₁, w₁, ⟨K', s', E, S', q⟩, fun k' hk => harr k' (by simp [gotoIn, hf, hk])⟩
 | ret => exact ⟨_, a₁, w₁, ⟨K', s', E, S', q⟩, harr⟩
 | panic ch => exact ⟨_, a₁, w₁, ⟨K', s', E, S', q⟩, harr⟩
 | outgrown => exact ⟨_, a₁, w₁, ⟨K', s', E, S', q⟩, harr⟩
variable {Γ : FuncId -> Option (List D -> Option D)} {md : Nat -> Nat}
theorem Sim.drew {K : Kn} {a : Act} {w : World} (S : Sim df K s a w) : Sim df K s a { w with drawn := w.drawn + 1 } := ⟨S.h.drew, S.d, S.n, S.v⟩
theorem TC (Γ : FuncId -> Option (List D -> Option D)) (md : Nat -> Nat) (hΓ : GammaOk P Γ) (hm : P.follows .mixedOrders = true) {id : Nat} {l : List Oper} (ho : GG P Γ md l.toArray (List.range' 0 l.length) (Array.replicate l.length false) = true)
  (h : ON P Γ md l.toArray l s (Q .normal)) : WP P (.region id l.toArray true) Q s := fun df K a w S => by
 refine wp_region_any hm ?_;have hp := KS l 0 (ops := l.toArray) (fun j => by simp) h;have := II hΓ _ _ (Ext.refl K) S.drew (Em _ _ ho hp);simpa using this
theorem S4 (Γ : FuncId -> Option (List D -> Option D)) (md : Nat -> Nat) (hΓ : GammaOk P Γ) (hm : P.follows .mixedOrders = true) (pl : List Nat) {id : Nat} {l : List Oper} (hl : pl.length = l.length) (ho : GG P Γ md l.toArray pl (Array.replicate l.length false) = true)
  (h : FO P Γ md l.toArray pl s (Q .normal)) : WP P (.region id l.toArray true) Q s := fun df K a w S => by
 refine wp_region_any hm ?_;have := II hΓ _ _ (Ext.refl K) S.drew (Em _ _ ho h);rw [hl] at this;simpa using this
theorem Un (Γ : FuncId -> Option (List D -> Option D)) (md : Nat -> Nat) (hΓ : GammaOk P Γ) (hm : P.follows .mixedOrders = true) {id : Nat} {l : List Oper}
  (h : OH P Γ md l.toArray (Q .normal) l.length (Array.replicate l.length false) s) : WP P (.region id l.toArray true) Q s := fun df K a w S => by
 refine wp_region_any hm ?_;have := II hΓ _ _ (Ext.refl K) S.drew h;simpa using this
def RG (P : Program) (s : St) : ResultVar -> Option D
 | .tmp t => some (s.sl.getD t .any)
 | .cell a t => I6 P s.h t (s.sl.getD a .any)
def PV : List D -> D
 | [d] => d
 | l => .tup l
theorem Jj {K : Kn} {a : Act} {w : World} (S : Sim df K s a w) (f : ResultVar -> Sem Value) (f1 : ∀ t, f (.tmp t) = pure (a.tmps.getD t undef)) (f2 : ∀ x t, f (.cell x t) = do loadVar t (<- asAddr (a.tmps.getD x undef))) : ∀ (l : List ResultVar) (ds : List D), l.mapM (RG P s) = some ds ->
  ∃ vs : List Value, (l.mapM f).run P w = .ok vs w /\ vs.length = ds.length /\ ∀ i, VR K (vs.getD i undef) (ds.getD i .any)
 | [], ds, h => by
  simp at h; subst h;exact ⟨[], rfl, rfl, fun i => by simp; exact .any _⟩
 | r :: l, ds, h => by
  simp only [List.mapM_cons, Option.pure_def, Option.bind_eq_bind, Option.bind_eq_some_iff] at h;obtain ⟨d, hd, ds', hds, he⟩ := h;injection he with he; subst he
  obtain ⟨vs, hr, hl, hv⟩ := Jj S f f1 f2 l ds' hds;have hone : ∃ v, (f r).run P w = .ok v w /\ VR K v d := by
   cases r with
   | tmp t => injection hd with hd; subst hd; exact ⟨_, by rw [f1]; rfl, S.v t⟩
   | cell x t =>
    simp only [RG, I6] at hd
    cases hc : Hu s.h (s.sl.getD x .any) with
    | none => rw [hc] at hd; simp at hd
    | some cs =>
     rw [hc, ba] at hd;obtain ⟨b, o, hva, hcs⟩ := IP S.h (S.v x) hc;obtain ⟨u, hu, hr⟩ := Ji (P := P) hcs hd;refine ⟨u, ?_, hr⟩;simp only [f2, hva, asAddr, Sem.run_bind, Sem.run_pure, Result.andThen_ok, hu]
  obtain ⟨v, hv1, hv2⟩ := hone;refine ⟨v :: vs, ?_, by simp [hl], fun i => ?_⟩
  ·simp only [List.mapM_cons, Sem.run_bind, hv1, Result.andThen_ok, hr, Sem.run_pure]
  ·cases i with
   | zero => exact hv2
   | succ i => exact hv i
def RetP (P : Program) (fn : Func) (R : D -> Heap -> Prop) : Exit -> St -> Prop
 | .normal, s | .ret, s => OptP (fn.results.toList.mapM (RG P s)) fun l => R (PV l) s.h
 | _, _ => False
theorem Jh {fn : Func} {R : D -> Heap -> Prop} {K : Kn} {a : Act} {w : World} (S : Sim df K s a w) (h : OptP (fn.results.toList.mapM (RG P s)) fun l => R (PV l) s.h) :
  ∃ v d, (results fn a.tmps).run P w = .ok v w /\ VR K v d /\ R d s.h := by
 obtain ⟨ds, hds, hR⟩ := h;have hex : ∃ vs : List Value, (results fn a.tmps).run P w = .ok (if h : vs.toArray.size = 1 then vs.toArray[0] else .tuple vs.toArray) w /\ vs.length = ds.length /\ ∀ i, VR K (vs.getD i undef) (ds.getD i .any) := by
  unfold results;rw [Sem.run_bind, Array.mapM_eq_mapM_toList, Sem.run_map];obtain ⟨vs, hr, hl, hv⟩ := Jj (P := P) S (fun | .tmp t => pure (a.tmps.getD t undef) | .cell x t => do loadVar t (<- asAddr (a.tmps.getD x undef))) (fun _ => rfl) (fun _ _ => rfl) _ _ hds;refine ⟨vs, ?_, hl, hv⟩;exact congrArg (fun r => (Result.andThen r fun a w' => Result.ok a.toArray w').andThen fun a w' => Sem.run P (pure (if h : a.size = 1 then a[0] else Value.tuple a)) w') hr
 obtain ⟨vs, hrun, hl, hv⟩ := hex;refine ⟨_, _, hrun, ?_, hR⟩
 match vs, ds, hl, hv with
 | [], [], _, hv => exact .tup _ _ rfl (fun i => by simp; exact .any _)
 | [v], [d], _, hv => exact hv 0
 | v :: v2 :: vs, d :: d2 :: ds, hl, hv =>
  have : ¬ (v :: v2 :: vs).toArray.size = 1 := by simp
  rw [dif_neg this];refine .tup _ _ (by simpa using hl) (fun i => ?_);have := hv i;simpa [Array.getD_eq_getD_getElem?, List.getD_eq_getElem?_getD] using this
theorem CallsA_body {f : FuncId} {fn : Func} {c : Code} {args : List D} {h : Heap} {R : D -> Heap -> Prop} (hf : P.funcs[f]? = some fn) (hb : fn.body = some c) (he : Ds P f = true)
  (hw : WP P c (RetP P fn R) ⟨args ++ List.replicate (fn.ntmps - args.length) .any, h⟩) : CallsA P f args h R := by
 refine .inl ⟨he, fun K w vs H hl hv => calls_of_wp hf hb ?_⟩;have S : Sim [] K ⟨args ++ List.replicate (fn.ntmps - args.length) .any, h⟩ { tmps := vs ++ Array.replicate (fn.ntmps - vs.size) undef, defers := [] } w := by
  refine ⟨H, rfl, by simp [hl], fun i => ?_⟩;refine EI hl hv (fun j => ?_) i;by_cases hj : j < fn.ntmps - args.length
  ·simp [List.getD, hj]; exact .any _
  ·simp [List.getD, hj]; exact .any _
 refine Code.wp_mono ?_ (hw [] K _ w S);rintro e a w' ⟨K', s', E, S', q⟩
 cases e with
 | normal =>
  obtain ⟨v, d, hr, hvr, hRd⟩ := Jh S' q;exact ⟨S'.d, v, hr, v, d, K', s'.h, rfl, E, S'.h, hvr, hRd⟩
 | ret =>
  obtain ⟨v, d, hr, hvr, hRd⟩ := Jh S' q;exact ⟨S'.d, v, hr, v, d, K', s'.h, rfl, E, S'.h, hvr, hRd⟩
 | _ => exact q.elim
end
end Go.Proofs.YtjofelloaofooaaGreatDoor
