/- One order of a statement's operations stands for all; the rules of the code; a function's call. No condition. -/
import Derived.Test.YtjofelloaofooaaGreatDoorEng10
set_option linter.unusedSimpArgs false
set_option linter.unusedVariables false
namespace Go.Proofs.YtjofelloaofooaaGreatDoor
variable {df : List Deferred}
section
variable (P : Program) (Γ : FuncId -> Option (List D -> Option D)) (md : Nat -> Nat)
def OH (ops : Array Oper) (k : St -> Prop) : Nat -> Array Bool -> St -> Prop
 | 0, listed, s => Region.ready .any ops listed = [] /\ k s
 | fuel + 1, listed, s => (Region.ready .any ops listed = [] -> k s) /\
  ∀ i ∈ Region.ready .any ops listed, match ops[i]? with
   | some o => EK P Γ md ops o s fun s' => OH ops k fuel (listed.setIfInBounds i true) s'
   | none => OH ops k fuel (listed.setIfInBounds i true) s
def PJ (ops : Array Oper) (listed : Array Bool) (i : Nat) : Bool :=
 match ops[i]? with
 | none => false
 | some oi => decide (EH P Γ (Ba md oi.dst) oi.op ≠ 2) && (List.range ops.size).all fun j => j == i || listed.getD j true || match ops[j]? with
   | some oj => oj.after.any (fun e => Region.binds .any e && e.on == i) || (oi.apart ops oj && (EH P Γ (Ba md oi.dst) oi.op == 0 || decide (EH P Γ (Ba md oj.dst) oj.op ≠ 2)))
   | none => true
def R2 (ops : Array Oper) (i : Nat) : List Bool :=
 ops.toList.foldl (fun dp o => dp ++ [o.after.any fun e => Region.binds .any e && (e.on == i || dp.getD e.on false)]) []
def Pp (ops : Array Oper) (listed : Array Bool) (i : Nat) : Bool :=
 match ops[i]? with
 | none => false
 | some oi => decide (EH P Γ (Ba md oi.dst) oi.op ≠ 2) && (fun dp : List Bool =>
   (List.range ops.size).all fun j => match ops[j]? with
    | none => true
    | some oj => (!(dp.getD j false) || (listed.getD j true == false && oj.after.any fun e => Region.binds .any e && (e.on == i || dp.getD e.on false))) &&
     (j == i || listed.getD j true || dp.getD j false || (oi.apart ops oj && (EH P Γ (Ba md oi.dst) oi.op == 0 || decide (EH P Γ (Ba md oj.dst) oj.op ≠ 2))))) (R2 ops i)
def GG (ops : Array Oper) : List Nat -> Array Bool -> Bool
 | [], listed => (Region.ready .any ops listed).isEmpty
 | i :: is, listed => (Region.ready .any ops listed).contains i && (Region.ready .any ops listed == [i] || (PJ P Γ md ops listed i || Pp P Γ md ops listed i)) && GG ops is (listed.setIfInBounds i true)
def Hd (ops : Array Oper) (o : Oper) (s : St) : Option D :=
 match o.guard with
 | none => EP P Γ (Ba md o.dst) o.op (opD s.sl) s.h
 | some (j, want) => match H1 ops s.sl j with
  | .bool b => if b = want then EP P Γ (Ba md o.dst) o.op (opD s.sl) s.h else some (.tup [])
  | .tup [] => some (.tup [])
  | _ => none
end
section
variable {P : Program} {Γ : FuncId -> Option (List D -> Option D)} {md : Nat -> Nat}
theorem II (hΓ : GammaOk P Γ) {ops : Array Oper} {Q : Exit -> St -> Prop} {K0 : Kn} : ∀ (fuel : Nat) (listed : Array Bool) {K : Kn} {s : St} {a : Act} {w : World}, Ext K0 K -> Sim df K s a w -> OH P Γ md ops (Q .normal) fuel listed s -> wpAny P .any ops (PostS df K0 Q) fuel listed a w
 | 0, listed, K, s, a, w, E0, S, h => ⟨h.1, K, s, E0, S, h.2⟩
 | fuel + 1, listed, K, s, a, w, E0, S, h => by
  refine ⟨fun hr => ⟨K, s, E0, S, h.1 hr⟩, fun i hi => ?_⟩;have := h.2 i hi;split at this
  ·rename_i o ho;exact MZ hΓ ho S this (fun K' s' a' w' E S' h' => II hΓ fuel _ (E0.trans E) S' h')
  ·rename_i ho;simp only [wpOp, ho];exact II hΓ fuel _ E0 S this
theorem OB {sl : List D} {dst : Option Nat} {d : D} {x : Operand} (h : ∀ t, dst = some t -> x ≠ .tmp t) : opD (Ez sl dst d) x = opD sl x := by
 cases dst with
 | none => rfl
 | some t => cases x with
  | tmp u =>
   have hne : t ≠ u := fun e => h t rfl (by rw [e]);simp [opD, Ez, List.getD_eq_getElem?_getD, List.getElem?_set_ne hne]
  | _ => rfl
theorem Jg {ops : Array Oper} {o : Oper} {t : Nat} (h : t ∉ o.looksAt ops) : ∀ x ∈ o.op.operands, x ≠ .tmp t := by
 intro x hx e;subst e;refine h ?_;unfold Oper.looksAt;rw [List.mem_append];left;rw [List.mem_filterMap];exact ⟨.tmp t, by simpa using hx, rfl⟩
theorem Hi {ops : Array Oper} {o : Oper} {t j : Nat} {b : Bool} (h : t ∉ o.looksAt ops) (hg : o.guard = some (j, b)) : (ops[j]?).bind (·.dst) ≠ some t := by
 intro e;refine h ?_;unfold Oper.looksAt;rw [List.mem_append];right;simp [hg, e]
theorem KE {ops : Array Oper} {sl : List D} {dst : Option Nat} {d : D} {j : Nat} (h : ∀ t, dst = some t -> (ops[j]?).bind (·.dst) ≠ some t) : H1 ops (Ez sl dst d) j = H1 ops sl j := by
 unfold H1
 cases hj : (ops[j]?).bind (·.dst) with
 | none => rfl
 | some u => cases dst with
  | none => rfl
  | some t =>
   have hne : t ≠ u := fun e => h t rfl (by rw [hj, e]);simp [Ez, List.getD_eq_getElem?_getD, List.getElem?_set_ne hne]
theorem Om {sl : List D} {x y : Option Nat} (d e : D) (h : ∀ t, x = some t -> y ≠ some t) : Ez (Ez sl x d) y e = Ez (Ez sl y e) x d := by
 cases x with
 | none => rfl
 | some t => cases y with
  | none => rfl
  | some u =>
   have hne : t ≠ u := fun q => h t rfl (by rw [q]);simp only [Ez];exact List.set_comm _ _ hne
theorem D9 {ops : Array Oper} {o : Oper} {s : St} {k : St -> Prop} (hc : EH P Γ (Ba md o.dst) o.op ≠ 2) : EK P Γ md ops o s k ↔ OptP (Hd P Γ md ops o s) fun d => k ⟨Ez s.sl o.dst d, s.h⟩ := by
 have he : ∀ {R : D -> Heap -> Prop}, BB P Γ (Ba md o.dst) o.op (opD s.sl) s.h R ↔ OptP (EP P Γ (Ba md o.dst) o.op (opD s.sl) s.h) fun d => R d s.h := TY hc (fun g => rfl);unfold EK Hd
 cases hg : o.guard with
 | none => exact he
 | some jw =>
  obtain ⟨j, want⟩ := jw;simp only
  cases hq : H1 ops s.sl j with
  | bool b =>
   by_cases hb : b = want
   ·simp only [hb, if_true]; exact he
   ·simp only [hb, if_false, OptP_some]
  | tup cs => cases cs with
   | nil => simp only [OptP_some]
   | cons a b => simp only [OptP_none]
  | _ => simp only [OptP_none]
theorem KJ {ops : Array Oper} {oi oj : Oper} {s : St} {d : D} (h3 : ∀ t, oj.dst = some t -> t ∉ oi.looksAt ops) : Hd P Γ md ops oi ⟨Ez s.sl oj.dst d, s.h⟩ = Hd P Γ md ops oi s := by
 have hρ : ∀ x ∈ oi.op.operands, opD (Ez s.sl oj.dst d) x = opD s.sl x := fun x hx => OB fun t ht => Jg (h3 t ht) x hx;have hf : EP P Γ (Ba md oi.dst) oi.op (opD (Ez s.sl oj.dst d)) s.h = EP P Γ (Ba md oi.dst) oi.op (opD s.sl) s.h := PE hρ;unfold Hd
 cases hg : oi.guard with
 | none => exact hf
 | some jw =>
  obtain ⟨j, want⟩ := jw;simp only;rw [KE fun t ht => Hi (h3 t ht) hg, hf]
theorem NH {ops : Array Oper} {o : Oper} {sl : List D} {h h' : Heap} (hc : EH P Γ (Ba md o.dst) o.op = 0) : Hd P Γ md ops o ⟨sl, h⟩ = Hd P Γ md ops o ⟨sl, h'⟩ := by
 unfold Hd;simp only [QL (h := h) (h' := h') hc]
theorem Jq {ops : Array Oper} {oi oj : Oper} {s : St} {d : D} {k : St -> Prop} (hap : oi.apart ops oj = true) (hci : EH P Γ (Ba md oi.dst) oi.op ≠ 2)
  (hcj : EH P Γ (Ba md oi.dst) oi.op = 0 \/ EH P Γ (Ba md oj.dst) oj.op ≠ 2) (hv : Hd P Γ md ops oi s = some d) (h : EK P Γ md ops oj ⟨Ez s.sl oi.dst d, s.h⟩ k) :
  EK P Γ md ops oj s fun s' => Hd P Γ md ops oi s' = some d /\ k ⟨Ez s'.sl oi.dst d, s'.h⟩ := by
 obtain ⟨h1, h2, h3⟩ := Oper.apart_spec hap;have hρ : ∀ x ∈ oj.op.operands, opD (Ez s.sl oi.dst d) x = opD s.sl x := fun x hx => OB fun t ht => Jg (h1 t ht) x hx;have hkeep : ∀ e, Hd P Γ md ops oi ⟨Ez s.sl oj.dst e, s.h⟩ = some d := fun e => by rw [KJ h3]; exact hv
 have hcomm : ∀ e, Ez (Ez s.sl oi.dst d) oj.dst e = Ez (Ez s.sl oj.dst e) oi.dst d := fun e => Om d e h2;rcases Nat.decEq (EH P Γ (Ba md oj.dst) oj.op) 2 with hj | hj
 ·rw [D9 hj] at h ⊢;rw [KJ (s := s) (fun t ht => h1 t ht)] at h;obtain ⟨e, he, hk⟩ := h;refine ⟨e, he, hkeep e, ?_⟩;simp only at hk ⊢;rw [<- hcomm]; exact hk
 ·have hc0 : EH P Γ (Ba md oi.dst) oi.op = 0 := hcj.resolve_right (fun hn => hn hj);have heff : BB P Γ (Ba md oj.dst) oj.op (opD (Ez s.sl oi.dst d)) s.h (fun e h' => k ⟨Ez (Ez s.sl oi.dst d) oj.dst e, h'⟩) ->
    BB P Γ (Ba md oj.dst) oj.op (opD s.sl) s.h (fun e h' => Hd P Γ md ops oi ⟨Ez s.sl oj.dst e, h'⟩ = some d /\ k ⟨Ez (Ez s.sl oj.dst e) oi.dst d, h'⟩) := fun he => by
   rw [Pz hρ] at he;refine Ix he fun e h' hk => ⟨?_, ?_⟩
   ·rw [NH (h' := s.h) hc0]; exact hkeep e
   ·rw [<- hcomm]; exact hk
  unfold EK at h ⊢
  cases hg : oj.guard with
  | none =>
   simp only [hg] at h;exact heff h
  | some jw =>
   obtain ⟨j, want⟩ := jw;simp only [hg] at h ⊢;rw [KE fun t ht => Hi (h1 t ht) hg] at h;split at h
   ·split at h
    ·rename_i hb; rw [if_pos hb]; exact heff h
    ·rename_i hb; rw [if_neg hb];refine ⟨hkeep _, ?_⟩;rw [<- hcomm]; exact h
   ·refine ⟨hkeep _, ?_⟩;rw [<- hcomm]; exact h
   ·exact h.elim
theorem Jz {ops : Array Oper} {k : St -> Prop} {i : Nat} {oi : Oper} {d : D} (hi : ops[i]? = some oi) (hci : EH P Γ (Ba md oi.dst) oi.op ≠ 2) :
  ∀ (fuel : Nat) (listed : Array Bool) (s : St),
   (∀ j oj, ops[j]? = some oj -> j ≠ i -> listed.getD j true = false -> (∀ e ∈ oj.after, Region.binds .any e = true -> e.on ≠ i) -> oi.apart ops oj = true /\ (EH P Γ (Ba md oi.dst) oi.op = 0 \/ EH P Γ (Ba md oj.dst) oj.op ≠ 2)) ->
   i ∈ Region.ready .any ops listed -> Hd P Γ md ops oi s = some d -> OH P Γ md ops k fuel (listed.setIfInBounds i true) ⟨Ez s.sl oi.dst d, s.h⟩ -> OH P Γ md ops k (fuel + 1) listed s := by
 intro fuel
 induction fuel with
 | zero =>
  intro listed s _ hr hv H;refine ⟨fun h => (by rw [h] at hr; cases hr), fun j hj => ?_⟩;by_cases hji : j = i
  ·subst hji;simp only [hi];exact (D9 hci).2 ⟨d, hv, H⟩
  ·have := ready_mono hj hji;rw [H.1] at this;cases this
 | succ fuel ih =>
  intro listed s hfree hr hv H;refine ⟨fun h => (by rw [h] at hr; cases hr), fun j hj => ?_⟩;by_cases hji : j = i
  ·subst hji;simp only [hi];exact (D9 hci).2 ⟨d, hv, H⟩
  ·have h1 := H.2 j (ready_mono hj hji);obtain ⟨hjun, oj, hoj, hall⟩ := mem_ready.1 hj;have hnot : ∀ e ∈ oj.after, Region.binds .any e = true -> e.on ≠ i := fun e he hb heq => by
    have h1 := hall e he hb;have h0 := (mem_ready.1 hr).1;rw [heq] at h1;rcases Nat.lt_or_ge i listed.size with h' | h'
    ·simp [h'] at h0 h1; rw [h0] at h1; cases h1
    ·simp [Array.getElem?_eq_none h'] at h1
   simp only [hoj] at h1 ⊢;obtain ⟨hap, hcj⟩ := hfree j oj hoj hji hjun hnot;have h2 := Jq hap hci hcj hv h1;have hfree' : ∀ q oq, ops[q]? = some oq -> q ≠ i -> (listed.setIfInBounds j true).getD q true = false ->
     (∀ e ∈ oq.after, Region.binds .any e = true -> e.on ≠ i) -> oi.apart ops oq = true /\ (EH P Γ (Ba md oi.dst) oi.op = 0 \/ EH P Γ (Ba md oq.dst) oq.op ≠ 2) := fun q oq hq hqi hun hno => by
    refine hfree q oq hq hqi ?_ hno;by_cases hjq : j = q
    ·subst hjq; exact hjun
    ·rw [getD_set_ne true hjq] at hun; exact hun
   refine Cg h2 fun s' h3 => ih (listed.setIfInBounds j true) s' hfree' (ready_mono hr (Ne.symm hji)) h3.1 ?_;rw [Array.setIfInBounds_comm _ _ hji];exact h3.2
theorem Jw {ops : Array Oper} {listed : Array Bool} {i : Nat} {oi : Oper} (hi : ops[i]? = some oi) (h : PJ P Γ md ops listed i = true) : EH P Γ (Ba md oi.dst) oi.op ≠ 2 /\
  ∀ j oj, ops[j]? = some oj -> j ≠ i -> listed.getD j true = false -> (∀ e ∈ oj.after, Region.binds .any e = true -> e.on ≠ i) -> oi.apart ops oj = true /\ (EH P Γ (Ba md oi.dst) oi.op = 0 \/ EH P Γ (Ba md oj.dst) oj.op ≠ 2) := by
 simp only [PJ, hi, Bool.and_eq_true, decide_eq_true_eq, List.all_eq_true, List.mem_range] at h;refine ⟨h.1, fun j oj hj hne hun hno => ?_⟩;have h1 := h.2 j (Array.getElem?_eq_some_iff.1 hj).1;simp only [hj, Bool.or_eq_true, beq_iff_eq, hne, false_or, hun, Bool.false_eq_true, Bool.and_eq_true, decide_eq_true_eq] at h1;rcases h1 with h1 | h1
 ·obtain ⟨e, he, hb⟩ := Array.any_eq_true'.1 h1;simp only [Bool.and_eq_true, beq_iff_eq] at hb;exact absurd hb.2 (hno e he hb.1)
 ·exact h1
theorem Iy {ops : Array Oper} {k : St -> Prop} {i : Nat} {oi : Oper} {d : D} (hi : ops[i]? = some oi) (hci : EH P Γ (Ba md oi.dst) oi.op ≠ 2) (dp : Nat -> Bool)
  (hdep : ∀ j oj, ops[j]? = some oj -> dp j = true -> ∃ e ∈ oj.after, Region.binds .any e = true /\ (e.on = i \/ dp e.on = true)) :
  ∀ (fuel : Nat) (listed : Array Bool) (s : St), (∀ q, dp q = true -> listed.getD q true = false) ->
   (∀ j oj, ops[j]? = some oj -> j ≠ i -> listed.getD j true = false -> dp j = false -> oi.apart ops oj = true /\ (EH P Γ (Ba md oi.dst) oi.op = 0 \/ EH P Γ (Ba md oj.dst) oj.op ≠ 2)) ->
   i ∈ Region.ready .any ops listed -> Hd P Γ md ops oi s = some d -> OH P Γ md ops k fuel (listed.setIfInBounds i true) ⟨Ez s.sl oi.dst d, s.h⟩ -> OH P Γ md ops k (fuel + 1) listed s := by
 intro fuel
 induction fuel with
 | zero =>
  intro listed s _ _ hr hv H;refine ⟨fun h => (by rw [h] at hr; cases hr), fun j hj => ?_⟩;by_cases hji : j = i
  ·subst hji;simp only [hi];exact (D9 hci).2 ⟨d, hv, H⟩
  ·have := ready_mono hj hji;rw [H.1] at this;cases this
 | succ fuel ih =>
  intro listed s hlist hfree hr hv H;refine ⟨fun h => (by rw [h] at hr; cases hr), fun j hj => ?_⟩;by_cases hji : j = i
  ·subst hji;simp only [hi];exact (D9 hci).2 ⟨d, hv, H⟩
  ·have h1 := H.2 j (ready_mono hj hji);obtain ⟨hjun, oj, hoj, hall⟩ := mem_ready.1 hj;have hnot : dp j = false := by
    cases hdj : dp j with
    | false => rfl
    | true =>
     obtain ⟨e, he, hb, hc⟩ := hdep j oj hoj hdj;have h1 := hall e he hb;rcases hc with heq | hd2
     ·have h0 := (mem_ready.1 hr).1;rw [heq] at h1;rcases Nat.lt_or_ge i listed.size with h' | h'
      ·simp [h'] at h0 h1; rw [h0] at h1; cases h1
      ·simp [Array.getElem?_eq_none h'] at h1
     ·have h0 := hlist e.on hd2;rcases Nat.lt_or_ge e.on listed.size with h' | h'
      ·simp [h'] at h0 h1; rw [h0] at h1; cases h1
      ·simp [Array.getElem?_eq_none h'] at h1
   simp only [hoj] at h1 ⊢;obtain ⟨hap, hcj⟩ := hfree j oj hoj hji hjun hnot;have h2 := Jq hap hci hcj hv h1;have hfree' : ∀ q oq, ops[q]? = some oq -> q ≠ i -> (listed.setIfInBounds j true).getD q true = false ->
     dp q = false -> oi.apart ops oq = true /\ (EH P Γ (Ba md oi.dst) oi.op = 0 \/ EH P Γ (Ba md oq.dst) oq.op ≠ 2) := fun q oq hq hqi hun hno => by
    refine hfree q oq hq hqi ?_ hno;by_cases hjq : j = q
    ·subst hjq; exact hjun
    ·rw [getD_set_ne true hjq] at hun; exact hun
   have hlist' : ∀ q, dp q = true -> (listed.setIfInBounds j true).getD q true = false := fun q hd => by
    have hjq : j ≠ q := fun e => by rw [e, hd] at hnot; cases hnot
    rw [getD_set_ne true hjq]; exact hlist q hd
   refine Cg h2 fun s' h3 => ih (listed.setIfInBounds j true) s' hlist' hfree' (ready_mono hr (Ne.symm hji)) h3.1 ?_;rw [Array.setIfInBounds_comm _ _ hji];exact h3.2
theorem Jf {ops : Array Oper} {listed : Array Bool} {i : Nat} {oi : Oper} (hi : ops[i]? = some oi) (h : Pp P Γ md ops listed i = true) : EH P Γ (Ba md oi.dst) oi.op ≠ 2 /\
  (∀ j oj, ops[j]? = some oj -> (R2 ops i).getD j false = true -> ∃ e ∈ oj.after, Region.binds .any e = true /\ (e.on = i \/ (R2 ops i).getD e.on false = true)) /\
  (∀ q, (R2 ops i).getD q false = true -> listed.getD q true = false) /\
  ∀ j oj, ops[j]? = some oj -> j ≠ i -> listed.getD j true = false -> (R2 ops i).getD j false = false -> oi.apart ops oj = true /\ (EH P Γ (Ba md oi.dst) oi.op = 0 \/ EH P Γ (Ba md oj.dst) oj.op ≠ 2) := by
 simp only [Pp, hi, Bool.and_eq_true, decide_eq_true_eq, List.all_eq_true, List.mem_range] at h;have key : ∀ j oj, ops[j]? = some oj -> _ := fun j oj hj => h.2 j (Array.getElem?_eq_some_iff.1 hj).1;refine ⟨h.1, fun j oj hj hd => ?_, fun j hd => ?_, fun j oj hj hne hun hd => ?_⟩
 ·have h1 := key j oj hj;simp only [hj, hd, Bool.not_true, Bool.false_or, Bool.and_eq_true] at h1;obtain ⟨e, he, hb⟩ := Array.any_eq_true'.1 h1.1.2;simp only [Bool.and_eq_true, Bool.or_eq_true, beq_iff_eq] at hb;exact ⟨e, he, hb.1, hb.2⟩
 ·have hlt : j < ops.size := by
   have hlen : ∀ (l : List Oper) (acc : List Bool), (l.foldl (fun dp o => dp ++ [o.after.any fun e => Region.binds .any e && (e.on == i || dp.getD e.on false)]) acc).length = acc.length + l.length := by
    intro l
    induction l with
    | nil => intro acc; rfl
    | cons o l ih => intro acc; rw [List.foldl_cons, ih]; simp; omega
   have hl : (R2 ops i).length = ops.size := by rw [R2, hlen]; simp
   apply Classical.byContradiction;intro hn;simp [List.getD, List.getElem?_eq_none (by omega : (R2 ops i).length <= j)] at hd
  have hj : ops[j]? = some ops[j] := Array.getElem?_eq_some_iff.2 ⟨hlt, rfl⟩;have h1 := key j _ hj;simp only [hj, hd, Bool.not_true, Bool.false_or, Bool.and_eq_true, beq_iff_eq] at h1;exact h1.1.1
 ·have h1 := key j oj hj;simp only [hj, hd, hun, Bool.and_eq_true, Bool.or_eq_true, beq_iff_eq, hne, false_or, Bool.false_eq_true, decide_eq_true_eq] at h1;exact h1.2
theorem Em {ops : Array Oper} {k : St -> Prop} : ∀ (l : List Nat) (listed : Array Bool) {s : St}, GG P Γ md ops l listed = true -> FO P Γ md ops l s k -> OH P Γ md ops k l.length listed s
 | [], listed, s, ho, h => ⟨by simpa [GG] using ho, h⟩
 | i :: is, listed, s, ho, h => by
  simp only [GG, Bool.and_eq_true, Bool.or_eq_true, beq_iff_eq] at ho;obtain ⟨⟨hr, hf⟩, hrest⟩ := ho;have hr' : i ∈ Region.ready .any ops listed := by simpa using hr
  obtain ⟨_, oi, hoi, _⟩ := mem_ready.1 hr';simp only [FO, hoi] at h;rcases hf with hone | hfree | hdeep
  ·refine ⟨fun h0 => (by rw [h0] at hr'; cases hr'), fun j hj => ?_⟩;rw [hone] at hj;have : j = i := by simpa using hj
   subst this;simp only [hoi];exact Cg h fun s' h' => Em is _ hrest h'
  ·obtain ⟨hci, hfr⟩ := Jw hoi hfree;obtain ⟨d, hv, hk⟩ := (D9 hci).1 h;exact Jz hoi hci is.length listed s hfr hr' hv (Em is _ hrest hk)
  ·obtain ⟨hci, hdep, hlist, hfr⟩ := Jf hoi hdeep;obtain ⟨d, hv, hk⟩ := (D9 hci).1 h;exact Iy hoi hci _ hdep is.length listed s hlist hfr hr' hv (Em is _ hrest hk)
end
end Go.Proofs.YtjofelloaofooaaGreatDoor
