/- One order of a statement's operations stands for all; the rules of the code; a function's call. No condition. -/
import Derived.Test.YtjofelloaofooaaGreatDoorEng10
set_option linter.unusedSimpArgs false
set_option linter.unusedVariables false
namespace Go.Proofs.YtjofelloaofooaaGreatDoor
variable {df : List Deferred}
section
variable (P : Program) (Γ : FuncId -> Option (List D -> Option D)) (md : Nat -> Nat)
def KF (ops : Array Oper) (k : St -> Prop) : Nat -> Array Bool -> St -> Prop
 | 0, listed, s => Region.ready .any ops listed = [] /\ k s
 | fuel + 1, listed, s => (Region.ready .any ops listed = [] -> k s) /\
  ∀ i ∈ Region.ready .any ops listed, match ops[i]? with
   | some o => Fy P Γ md ops o s fun s' => KF ops k fuel (listed.setIfInBounds i true) s'
   | none => KF ops k fuel (listed.setIfInBounds i true) s
def Ry (ops : Array Oper) (listed : Array Bool) (i : Nat) : Bool :=
 match ops[i]? with
 | none => false
 | some oi => decide (FH P Γ (Cd md oi.dst) oi.op ≠ 2) && (List.range ops.size).all fun j => j == i || listed.getD j true || match ops[j]? with
   | some oj => oj.after.any (fun e => Region.binds .any e && e.on == i) || (oi.apart ops oj && (FH P Γ (Cd md oi.dst) oi.op == 0 || decide (FH P Γ (Cd md oj.dst) oj.op ≠ 2)))
   | none => true
def U0 (ops : Array Oper) (i : Nat) : List Bool :=
 ops.toList.foldl (fun dp o => dp ++ [o.after.any fun e => Region.binds .any e && (e.on == i || dp.getD e.on false)]) []
def Rh (ops : Array Oper) (listed : Array Bool) (i : Nat) : Bool :=
 match ops[i]? with
 | none => false
 | some oi => decide (FH P Γ (Cd md oi.dst) oi.op ≠ 2) && (fun dp : List Bool =>
   (List.range ops.size).all fun j => match ops[j]? with
    | none => true
    | some oj => (!(dp.getD j false) || (listed.getD j true == false && oj.after.any fun e => Region.binds .any e && (e.on == i || dp.getD e.on false))) &&
     (j == i || listed.getD j true || dp.getD j false || (oi.apart ops oj && (FH P Γ (Cd md oi.dst) oi.op == 0 || decide (FH P Γ (Cd md oj.dst) oj.op ≠ 2))))) (U0 ops i)
def IF (ops : Array Oper) : List Nat -> Array Bool -> Bool
 | [], listed => (Region.ready .any ops listed).isEmpty
 | i :: is, listed => (Region.ready .any ops listed).contains i && (Region.ready .any ops listed == [i] || (Ry P Γ md ops listed i || Rh P Γ md ops listed i)) && IF ops is (listed.setIfInBounds i true)
def I7 (ops : Array Oper) (o : Oper) (s : St) : Option D :=
 match o.guard with
 | none => FK P Γ (Cd md o.dst) o.op (opD s.sl) s.h
 | some (j, want) => match JT ops s.sl j with
  | .bool b => if b = want then FK P Γ (Cd md o.dst) o.op (opD s.sl) s.h else some (.tup [])
  | .tup [] => some (.tup [])
  | _ => none
end
section
variable {P : Program} {Γ : FuncId -> Option (List D -> Option D)} {md : Nat -> Nat}
theorem Kq (hΓ : GammaOk P Γ) {ops : Array Oper} {Q : Exit -> St -> Prop} {K0 : Kn} : ∀ (fuel : Nat) (listed : Array Bool) {K : Kn} {s : St} {a : Act} {w : World}, Ext K0 K -> Sim df K s a w -> KF P Γ md ops (Q .normal) fuel listed s -> wpAny P .any ops (PostS df K0 Q) fuel listed a w
 | 0, listed, K, s, a, w, E0, S, h => ⟨h.1, K, s, E0, S, h.2⟩
 | fuel + 1, listed, K, s, a, w, E0, S, h => by
  refine ⟨fun hr => ⟨K, s, E0, S, h.1 hr⟩, fun i hi => ?_⟩;have := h.2 i hi;split at this
  ·rename_i o ho;exact OW hΓ ho S this (fun K' s' a' w' E S' h' => Kq hΓ fuel _ (E0.trans E) S' h')
  ·rename_i ho;simp only [wpOp, ho];exact Kq hΓ fuel _ E0 S this
theorem Rn {sl : List D} {dst : Option Nat} {d : D} {x : Operand} (h : ∀ t, dst = some t -> x ≠ .tmp t) : opD (Fu sl dst d) x = opD sl x := by
 cases dst with
 | none => rfl
 | some t => cases x with
  | tmp u =>
   have hne : t ≠ u := fun e => h t rfl (by rw [e]);simp [opD, Fu, List.getD_eq_getElem?_getD, List.getElem?_set_ne hne]
  | _ => rfl
theorem LD {ops : Array Oper} {o : Oper} {t : Nat} (h : t ∉ o.looksAt ops) : ∀ x ∈ o.op.operands, x ≠ .tmp t := by
 intro x hx e;subst e;refine h ?_;unfold Oper.looksAt;rw [List.mem_append];left;rw [List.mem_filterMap];exact ⟨.tmp t, by simpa using hx, rfl⟩
theorem Jf {ops : Array Oper} {o : Oper} {t j : Nat} {b : Bool} (h : t ∉ o.looksAt ops) (hg : o.guard = some (j, b)) : (ops[j]?).bind (·.dst) ≠ some t := by
 intro e;refine h ?_;unfold Oper.looksAt;rw [List.mem_append];right;simp [hg, e]
theorem NI {ops : Array Oper} {sl : List D} {dst : Option Nat} {d : D} {j : Nat} (h : ∀ t, dst = some t -> (ops[j]?).bind (·.dst) ≠ some t) : JT ops (Fu sl dst d) j = JT ops sl j := by
 unfold JT
 cases hj : (ops[j]?).bind (·.dst) with
 | none => rfl
 | some u => cases dst with
  | none => rfl
  | some t =>
   have hne : t ≠ u := fun e => h t rfl (by rw [hj, e]);simp [Fu, List.getD_eq_getElem?_getD, List.getElem?_set_ne hne]
theorem QH {sl : List D} {x y : Option Nat} (d e : D) (h : ∀ t, x = some t -> y ≠ some t) : Fu (Fu sl x d) y e = Fu (Fu sl y e) x d := by
 cases x with
 | none => rfl
 | some t => cases y with
  | none => rfl
  | some u =>
   have hne : t ≠ u := fun q => h t rfl (by rw [q]);simp only [Fu];exact List.set_comm _ _ hne
theorem Ei {ops : Array Oper} {o : Oper} {s : St} {k : St -> Prop} (hc : FH P Γ (Cd md o.dst) o.op ≠ 2) : Fy P Γ md ops o s k ↔ OptP (I7 P Γ md ops o s) fun d => k ⟨Fu s.sl o.dst d, s.h⟩ := by
 have he : ∀ {R : D -> Heap -> Prop}, CC P Γ (Cd md o.dst) o.op (opD s.sl) s.h R ↔ OptP (FK P Γ (Cd md o.dst) o.op (opD s.sl) s.h) fun d => R d s.h := Vz hc (fun g => rfl);unfold Fy I7
 cases hg : o.guard with
 | none => exact he
 | some jw =>
  obtain ⟨j, want⟩ := jw;simp only
  cases hq : JT ops s.sl j with
  | bool b =>
   by_cases hb : b = want
   ·simp only [hb, if_true]; exact he
   ·simp only [hb, if_false, OptP_some]
  | tup cs => cases cs with
   | nil => simp only [OptP_some]
   | cons a b => simp only [OptP_none]
  | _ => simp only [OptP_none]
theorem Nu {ops : Array Oper} {oi oj : Oper} {s : St} {d : D} (h3 : ∀ t, oj.dst = some t -> t ∉ oi.looksAt ops) : I7 P Γ md ops oi ⟨Fu s.sl oj.dst d, s.h⟩ = I7 P Γ md ops oi s := by
 have hρ : ∀ x ∈ oi.op.operands, opD (Fu s.sl oj.dst d) x = opD s.sl x := fun x hx => Rn fun t ht => LD (h3 t ht) x hx;have hf : FK P Γ (Cd md oi.dst) oi.op (opD (Fu s.sl oj.dst d)) s.h = FK P Γ (Cd md oi.dst) oi.op (opD s.sl) s.h := Rd hρ;unfold I7
 cases hg : oi.guard with
 | none => exact hf
 | some jw =>
  obtain ⟨j, want⟩ := jw;simp only;rw [NI fun t ht => Jf (h3 t ht) hg, hf]
theorem PL {ops : Array Oper} {o : Oper} {sl : List D} {h h' : Heap} (hc : FH P Γ (Cd md o.dst) o.op = 0) : I7 P Γ md ops o ⟨sl, h⟩ = I7 P Γ md ops o ⟨sl, h'⟩ := by
 unfold I7;simp only [TW (h := h) (h' := h') hc]
theorem Lz {ops : Array Oper} {oi oj : Oper} {s : St} {d : D} {k : St -> Prop} (hap : oi.apart ops oj = true) (hci : FH P Γ (Cd md oi.dst) oi.op ≠ 2)
  (hcj : FH P Γ (Cd md oi.dst) oi.op = 0 \/ FH P Γ (Cd md oj.dst) oj.op ≠ 2) (hv : I7 P Γ md ops oi s = some d) (h : Fy P Γ md ops oj ⟨Fu s.sl oi.dst d, s.h⟩ k) :
  Fy P Γ md ops oj s fun s' => I7 P Γ md ops oi s' = some d /\ k ⟨Fu s'.sl oi.dst d, s'.h⟩ := by
 obtain ⟨h1, h2, h3⟩ := Oper.apart_spec hap;have hρ : ∀ x ∈ oj.op.operands, opD (Fu s.sl oi.dst d) x = opD s.sl x := fun x hx => Rn fun t ht => LD (h1 t ht) x hx;have hkeep : ∀ e, I7 P Γ md ops oi ⟨Fu s.sl oj.dst e, s.h⟩ = some d := fun e => by rw [Nu h3]; exact hv
 have hcomm : ∀ e, Fu (Fu s.sl oi.dst d) oj.dst e = Fu (Fu s.sl oj.dst e) oi.dst d := fun e => QH d e h2;rcases Nat.decEq (FH P Γ (Cd md oj.dst) oj.op) 2 with hj | hj
 ·rw [Ei hj] at h ⊢;rw [Nu (s := s) (fun t ht => h1 t ht)] at h;obtain ⟨e, he, hk⟩ := h;refine ⟨e, he, hkeep e, ?_⟩;simp only at hk ⊢;rw [<- hcomm]; exact hk
 ·have hc0 : FH P Γ (Cd md oi.dst) oi.op = 0 := hcj.resolve_right (fun hn => hn hj);have heff : CC P Γ (Cd md oj.dst) oj.op (opD (Fu s.sl oi.dst d)) s.h (fun e h' => k ⟨Fu (Fu s.sl oi.dst d) oj.dst e, h'⟩) ->
    CC P Γ (Cd md oj.dst) oj.op (opD s.sl) s.h (fun e h' => I7 P Γ md ops oi ⟨Fu s.sl oj.dst e, h'⟩ = some d /\ k ⟨Fu (Fu s.sl oj.dst e) oi.dst d, h'⟩) := fun he => by
   rw [QK hρ] at he;refine KQ he fun e h' hk => ⟨?_, ?_⟩
   ·rw [PL (h' := s.h) hc0]; exact hkeep e
   ·rw [<- hcomm]; exact hk
  unfold Fy at h ⊢
  cases hg : oj.guard with
  | none =>
   simp only [hg] at h;exact heff h
  | some jw =>
   obtain ⟨j, want⟩ := jw;simp only [hg] at h ⊢;rw [NI fun t ht => Jf (h1 t ht) hg] at h;split at h
   ·split at h
    ·rename_i hb; rw [if_pos hb]; exact heff h
    ·rename_i hb; rw [if_neg hb];refine ⟨hkeep _, ?_⟩;rw [<- hcomm]; exact h
   ·refine ⟨hkeep _, ?_⟩;rw [<- hcomm]; exact h
   ·exact h.elim
theorem JC {ops : Array Oper} {k : St -> Prop} {i : Nat} {oi : Oper} {d : D} (hi : ops[i]? = some oi) (hci : FH P Γ (Cd md oi.dst) oi.op ≠ 2) :
  ∀ (fuel : Nat) (listed : Array Bool) (s : St),
   (∀ j oj, ops[j]? = some oj -> j ≠ i -> listed.getD j true = false -> (∀ e ∈ oj.after, Region.binds .any e = true -> e.on ≠ i) -> oi.apart ops oj = true /\ (FH P Γ (Cd md oi.dst) oi.op = 0 \/ FH P Γ (Cd md oj.dst) oj.op ≠ 2)) ->
   i ∈ Region.ready .any ops listed -> I7 P Γ md ops oi s = some d -> KF P Γ md ops k fuel (listed.setIfInBounds i true) ⟨Fu s.sl oi.dst d, s.h⟩ -> KF P Γ md ops k (fuel + 1) listed s := by
 intro fuel
 induction fuel with
 | zero =>
  intro listed s _ hr hv H;refine ⟨fun h => (by rw [h] at hr; cases hr), fun j hj => ?_⟩;by_cases hji : j = i
  ·subst hji;simp only [hi];exact (Ei hci).2 ⟨d, hv, H⟩
  ·have := ready_mono hj hji;rw [H.1] at this;cases this
 | succ fuel ih =>
  intro listed s hfree hr hv H;refine ⟨fun h => (by rw [h] at hr; cases hr), fun j hj => ?_⟩;by_cases hji : j = i
  ·subst hji;simp only [hi];exact (Ei hci).2 ⟨d, hv, H⟩
  ·have h1 := H.2 j (ready_mono hj hji);obtain ⟨hjun, oj, hoj, hall⟩ := mem_ready.1 hj;have hnot : ∀ e ∈ oj.after, Region.binds .any e = true -> e.on ≠ i := fun e he hb heq => by
    have h1 := hall e he hb;have h0 := (mem_ready.1 hr).1;rw [heq] at h1;rcases Nat.lt_or_ge i listed.size with h' | h'
    ·simp [h'] at h0 h1; rw [h0] at h1; cases h1
    ·simp [Array.getElem?_eq_none h'] at h1
   simp only [hoj] at h1 ⊢;obtain ⟨hap, hcj⟩ := hfree j oj hoj hji hjun hnot;have h2 := Lz hap hci hcj hv h1;have hfree' : ∀ q oq, ops[q]? = some oq -> q ≠ i -> (listed.setIfInBounds j true).getD q true = false ->
     (∀ e ∈ oq.after, Region.binds .any e = true -> e.on ≠ i) -> oi.apart ops oq = true /\ (FH P Γ (Cd md oi.dst) oi.op = 0 \/ FH P Γ (Cd md oq.dst) oq.op ≠ 2) := fun q oq hq hqi hun hno => by
    refine hfree q oq hq hqi ?_ hno;by_cases hjq : j = q
    ·subst hjq; exact hjun
    ·rw [getD_set_ne true hjq] at hun; exact hun
   refine Df h2 fun s' h3 => ih (listed.setIfInBounds j true) s' hfree' (ready_mono hr (Ne.symm hji)) h3.1 ?_;rw [Array.setIfInBounds_comm _ _ hji];exact h3.2
theorem Jp {ops : Array Oper} {listed : Array Bool} {i : Nat} {oi : Oper} (hi : ops[i]? = some oi) (h : Ry P Γ md ops listed i = true) : FH P Γ (Cd md oi.dst) oi.op ≠ 2 /\
  ∀ j oj, ops[j]? = some oj -> j ≠ i -> listed.getD j true = false -> (∀ e ∈ oj.after, Region.binds .any e = true -> e.on ≠ i) -> oi.apart ops oj = true /\ (FH P Γ (Cd md oi.dst) oi.op = 0 \/ FH P Γ (Cd md oj.dst) oj.op ≠ 2) := by
 simp only [Ry, hi, Bool.and_eq_true, decide_eq_true_eq, List.all_eq_true, List.mem_range] at h;refine ⟨h.1, fun j oj hj hne hun hno => ?_⟩;have h1 := h.2 j (Array.getElem?_eq_some_iff.1 hj).1;simp only [hj, Bool.or_eq_true, beq_iff_eq, hne, false_or, hun, Bool.false_eq_true, Bool.and_eq_true, decide_eq_true_eq] at h1;rcases h1 with h1 | h1
 ·obtain ⟨e, he, hb⟩ := Array.any_eq_true'.1 h1;simp only [Bool.and_eq_true, beq_iff_eq] at hb;exact absurd hb.2 (hno e he hb.1)
 ·exact h1
theorem IV {ops : Array Oper} {k : St -> Prop} {i : Nat} {oi : Oper} {d : D} (hi : ops[i]? = some oi) (hci : FH P Γ (Cd md oi.dst) oi.op ≠ 2) (dp : Nat -> Bool)
  (hdep : ∀ j oj, ops[j]? = some oj -> dp j = true -> ∃ e ∈ oj.after, Region.binds .any e = true /\ (e.on = i \/ dp e.on = true)) :
  ∀ (fuel : Nat) (listed : Array Bool) (s : St), (∀ q, dp q = true -> listed.getD q true = false) ->
   (∀ j oj, ops[j]? = some oj -> j ≠ i -> listed.getD j true = false -> dp j = false -> oi.apart ops oj = true /\ (FH P Γ (Cd md oi.dst) oi.op = 0 \/ FH P Γ (Cd md oj.dst) oj.op ≠ 2)) ->
   i ∈ Region.ready .any ops listed -> I7 P Γ md ops oi s = some d -> KF P Γ md ops k fuel (listed.setIfInBounds i true) ⟨Fu s.sl oi.dst d, s.h⟩ -> KF P Γ md ops k (fuel + 1) listed s := by
 intro fuel
 induction fuel with
 | zero =>
  intro listed s _ _ hr hv H;refine ⟨fun h => (by rw [h] at hr; cases hr), fun j hj => ?_⟩;by_cases hji : j = i
  ·subst hji;simp only [hi];exact (Ei hci).2 ⟨d, hv, H⟩
  ·have := ready_mono hj hji;rw [H.1] at this;cases this
 | succ fuel ih =>
  intro listed s hlist hfree hr hv H;refine ⟨fun h => (by rw [h] at hr; cases hr), fun j hj => ?_⟩;by_cases hji : j = i
  ·subst hji;simp only [hi];exact (Ei hci).2 ⟨d, hv, H⟩
  ·have h1 := H.2 j (ready_mono hj hji);obtain ⟨hjun, oj, hoj, hall⟩ := mem_ready.1 hj;have hnot : dp j = false := by
    cases hdj : dp j with
    | false => rfl
    | true =>
     obtain ⟨e, he, hb, hc⟩ := hdep j oj hoj hdj;have h1 := hall e he hb;rcases hc with heq | hd2
     ·have h0 := (mem_ready.1 hr).1;rw [heq] at h1;rcases Nat.lt_or_ge i listed.size with h' | h'
      ·simp [h'] at h0 h1; rw [h0] at h1; cases h1
      ·simp [Array.getElem?_eq_none h'] at h1
     ·have h0 := hlist e.on hd2;rcases Nat.lt_or_ge e.on listed.size with h' | h'
      ·simp [h'] at h0 h1; rw [h0] at h1; cases h1
      ·simp [Array.getElem?_eq_none h'] at h1
   simp only [hoj] at h1 ⊢;obtain ⟨hap, hcj⟩ := hfree j oj hoj hji hjun hnot;have h2 := Lz hap hci hcj hv h1;have hfree' : ∀ q oq, ops[q]? = some oq -> q ≠ i -> (listed.setIfInBounds j true).getD q true = false ->
     dp q = false -> oi.apart ops oq = true /\ (FH P Γ (Cd md oi.dst) oi.op = 0 \/ FH P Γ (Cd md oq.dst) oq.op ≠ 2) := fun q oq hq hqi hun hno => by
    refine hfree q oq hq hqi ?_ hno;by_cases hjq : j = q
    ·subst hjq; exact hjun
    ·rw [getD_set_ne true hjq] at hun; exact hun
   have hlist' : ∀ q, dp q = true -> (listed.setIfInBounds j true).getD q true = false := fun q hd => by
    have hjq : j ≠ q := fun e => by rw [e, hd] at hnot; cases hnot
    rw [getD_set_ne true hjq]; exact hlist q hd
   refine Df h2 fun s' h3 => ih (listed.setIfInBounds j true) s' hlist' hfree' (ready_mono hr (Ne.symm hji)) h3.1 ?_;rw [Array.setIfInBounds_comm _ _ hji];exact h3.2
theorem Jo {ops : Array Oper} {listed : Array Bool} {i : Nat} {oi : Oper} (hi : ops[i]? = some oi) (h : Rh P Γ md ops listed i = true) : FH P Γ (Cd md oi.dst) oi.op ≠ 2 /\
  (∀ j oj, ops[j]? = some oj -> (U0 ops i).getD j false = true -> ∃ e ∈ oj.after, Region.binds .any e = true /\ (e.on = i \/ (U0 ops i).getD e.on false = true)) /\
  (∀ q, (U0 ops i).getD q false = true -> listed.getD q true = false) /\
  ∀ j oj, ops[j]? = some oj -> j ≠ i -> listed.getD j true = false -> (U0 ops i).getD j false = false -> oi.apart ops oj = true /\ (FH P Γ (Cd md oi.dst) oi.op = 0 \/ FH P Γ (Cd md oj.dst) oj.op ≠ 2) := by
 simp only [Rh, hi, Bool.and_eq_true, decide_eq_true_eq, List.all_eq_true, List.mem_range] at h;have key : ∀ j oj, ops[j]? = some oj -> _ := fun j oj hj => h.2 j (Array.getElem?_eq_some_iff.1 hj).1;refine ⟨h.1, fun j oj hj hd => ?_, fun j hd => ?_, fun j oj hj hne hun hd => ?_⟩
 ·have h1 := key j oj hj;simp only [hj, hd, Bool.not_true, Bool.false_or, Bool.and_eq_true] at h1;obtain ⟨e, he, hb⟩ := Array.any_eq_true'.1 h1.1.2;simp only [Bool.and_eq_true, Bool.or_eq_true, beq_iff_eq] at hb;exact ⟨e, he, hb.1, hb.2⟩
 ·have hlt : j < ops.size := by
   have hlen : ∀ (l : List Oper) (acc : List Bool), (l.foldl (fun dp o => dp ++ [o.after.any fun e => Region.binds .any e && (e.on == i || dp.getD e.on false)]) acc).length = acc.length + l.length := by
    intro l
    induction l with
    | nil => intro acc; rfl
    | cons o l ih => intro acc; rw [List.foldl_cons, ih]; simp; omega
   have hl : (U0 ops i).length = ops.size := by rw [U0, hlen]; simp
   apply Classical.byContradiction;intro hn;simp [List.getD, List.getElem?_eq_none (by omega : (U0 ops i).length <= j)] at hd
  have hj : ops[j]? = some ops[j] := Array.getElem?_eq_some_iff.2 ⟨hlt, rfl⟩;have h1 := key j _ hj;simp only [hj, hd, Bool.not_true, Bool.false_or, Bool.and_eq_true, beq_iff_eq] at h1;exact h1.1.1
 ·have h1 := key j oj hj;simp only [hj, hd, hun, Bool.and_eq_true, Bool.or_eq_true, beq_iff_eq, hne, false_or, Bool.false_eq_true, decide_eq_true_eq] at h1;exact h1.2
theorem E9 {ops : Array Oper} {k : St -> Prop} : ∀ (l : List Nat) (listed : Array Bool) {s : St}, IF P Γ md ops l listed = true -> GC P Γ md ops l s k -> KF P Γ md ops k l.length listed s
 | [], listed, s, ho, h => ⟨by simpa [IF] using ho, h⟩
 | i :: is, listed, s, ho, h => by
  simp only [IF, Bool.and_eq_true, Bool.or_eq_true, beq_iff_eq] at ho;obtain ⟨⟨hr, hf⟩, hrest⟩ := ho;have hr' : i ∈ Region.ready .any ops listed := by simpa using hr
  obtain ⟨_, oi, hoi, _⟩ := mem_ready.1 hr';simp only [GC, hoi] at h;rcases hf with hone | hfree | hdeep
  ·refine ⟨fun h0 => (by rw [h0] at hr'; cases hr'), fun j hj => ?_⟩;rw [hone] at hj;have : j = i := by simpa using hj
   subst this;simp only [hoi];exact Df h fun s' h' => E9 is _ hrest h'
  ·obtain ⟨hci, hfr⟩ := Jp hoi hfree;obtain ⟨d, hv, hk⟩ := (Ei hci).1 h;exact JC hoi hci is.length listed s hfr hr' hv (E9 is _ hrest hk)
  ·obtain ⟨hci, hdep, hlist, hfr⟩ := Jo hoi hdeep;obtain ⟨d, hv, hk⟩ := (Ei hci).1 h;exact IV hoi hci _ hdep is.length listed s hlist hfr hr' hv (E9 is _ hrest hk)
end
end Go.Proofs.YtjofelloaofooaaGreatDoor
