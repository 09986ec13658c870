/- Statements of the abstract machine, in whatever order their operations run; loops, calls. No condition. -/
import Derived.Scope
import Derived.Test.YtjofelloaofooaaGreatDoorEng8
set_option linter.unusedSimpArgs false
set_option linter.unusedVariables false
namespace Go.Proofs.YtjofelloaofooaaGreatDoor
structure St where
 sl : List D
 h : Heap
def Ez (s : List D) (dst : Option Nat) (d : D) : List D := match dst with
 | some i => s.set i d
 | none => s
structure Sim (df : List Deferred) (K : Kn) (s : St) (a : Act) (w : World) : Prop where
 h : HR K s.h w
 d : a.defers = df
 n : a.tmps.size = s.sl.length
 v : ∀ i, VR K (a.tmps.getD i undef) (s.sl.getD i .any)
variable {df : List Deferred}
theorem Sim.put {K K' : Kn} {s : St} {a : Act} {w w' : World} {h' : Heap} (S : Sim df K s a w) (E : Ext K K') (H : HR K' h' w') {dst : Option Nat} {v : Value} {d : D} (hv : VR K' v d) : Sim df K' ⟨Ez s.sl dst d, h'⟩ (a.put dst v) w' := by
 cases dst with
 | none => exact ⟨H, S.d, S.n, fun i => (S.v i).mono E⟩
 | some t =>
  refine ⟨H, S.d, by simp [Ez, Act.put, S.n], fun i => ?_⟩;by_cases hi : t = i
  ·subst hi;by_cases hl : t < s.sl.length
   ·have hl' : t < a.tmps.size := by rw [S.n]; exact hl
    simp [Ez, Act.put, Array.getD, hl', List.getD, hl]; exact hv
   ·have hl' : ¬ t < a.tmps.size := by rw [S.n]; exact hl
    simp [Ez, Act.put, Array.getD, hl', List.getD, hl]; exact .any _
  ·have := (S.v i).mono E;simpa [Ez, Act.put, Array.getD_eq_getD_getElem?, Array.getElem?_setIfInBounds_ne hi, List.getD_eq_getElem?_getD, List.getElem?_set_ne hi] using this
theorem Sim.eval {K : Kn} {s : St} {a : Act} {w : World} (S : Sim df K s a w) (x : Operand) : VR K (a.eval x) (opD s.sl x) := by
 cases x with
 | tmp t => simpa [Act.eval, opD] using S.v t
 | const v => exact S8 K v
 | global g => exact .any _
 | func f => exact .fn _ _ _ _ _ rfl rfl (fun i => by simp; exact .any _) (fun i => by simp; exact .any _)
section
variable (P : Program) (Γ : FuncId -> Option (List D -> Option D)) (md : Nat -> Nat)
def Ba (dst : Option Nat) : Nat := match dst with
 | some i => md i
 | none => 0
def H1 (ops : Array Oper) (sl : List D) (j : Nat) : D := match (ops[j]?).bind (·.dst) with
 | some d => sl.getD d .any
 | none => .tup []
def EK (ops : Array Oper) (o : Oper) (s : St) (k : St -> Prop) : Prop :=
 match o.guard with
 | none => BB P Γ (Ba md o.dst) o.op (opD s.sl) s.h fun d h' => k ⟨Ez s.sl o.dst d, h'⟩
 | some (j, want) => match H1 ops s.sl j with
  | .bool b => if b = want then BB P Γ (Ba md o.dst) o.op (opD s.sl) s.h fun d h' => k ⟨Ez s.sl o.dst d, h'⟩ else k ⟨Ez s.sl o.dst (.tup []), s.h⟩
  | .tup [] => k ⟨Ez s.sl o.dst (.tup []), s.h⟩
  | _ => False
def FO (ops : Array Oper) : List Nat -> St -> (St -> Prop) -> Prop
 | [], s, k => k s
 | i :: is, s, k => match ops[i]? with
  | some o => EK P Γ md ops o s fun s' => FO ops is s' k
  | none => FO ops is s k
def ON (ops : Array Oper) : List Oper -> St -> (St -> Prop) -> Prop
 | [], s, k => k s
 | o :: os, s, k => EK P Γ md ops o s fun s' => ON ops os s' k
def PostS (df : List Deferred) (K : Kn) (Q : Exit -> St -> Prop) : Exit -> Act -> World -> Prop := fun e a w => ∃ K' s, Ext K K' /\ Sim df K' s a w /\ Q e s
end
section
variable {P : Program} {Γ : FuncId -> Option (List D -> Option D)} {md : Nat -> Nat}
theorem PostS.ext {K K' : Kn} (E : Ext K K') {Q : Exit -> St -> Prop} {e : Exit} {a : Act} {w : World} (h : PostS df K' Q e a w) : PostS df K Q e a w := by
 obtain ⟨K2, s, E2, S, q⟩ := h;exact ⟨K2, s, E.trans E2, S, q⟩
theorem Nu {K : Kn} {s : St} {a : Act} {w : World} (S : Sim df K s a w) (ops : Array Oper) (j : Nat) :
  (∀ b, H1 ops s.sl j = .bool b -> yielded ops a.tmps j = some b) /\ (H1 ops s.sl j = .tup [] -> yielded ops a.tmps j = none) := by
 unfold H1 yielded
 cases hd : (ops[j]?).bind (·.dst) with
 | none => simp
 | some d =>
  simp only [ba];have hv := S.v d;refine ⟨fun b hb => ?_, fun hb => ?_⟩
  ·rw [hb] at hv;have hlt : d < a.tmps.size := by
    rcases Nat.lt_or_ge d a.tmps.size with h | h
    ·exact h
    ·rw [S.n] at h;have : s.sl.getD d D.any = D.any := by rw [List.getD_eq_getElem?_getD, List.getElem?_eq_none h]; rfl
     rw [this] at hb; simp at hb
   have e : a.tmps[d]? = some (a.tmps.getD d undef) := by simp [Array.getD, hlt]
   rw [e];generalize a.tmps.getD d undef = q at hv;cases hv; rfl
  ·rw [hb] at hv;have hlt : d < a.tmps.size := by
    rcases Nat.lt_or_ge d a.tmps.size with h | h
    ·exact h
    ·rw [S.n] at h;have : s.sl.getD d D.any = D.any := by rw [List.getD_eq_getElem?_getD, List.getElem?_eq_none h]; rfl
     rw [this] at hb; simp at hb
   have e : a.tmps[d]? = some (a.tmps.getD d undef) := by simp [Array.getD, hlt]
   rw [e];generalize a.tmps.getD d undef = q at hv;cases hv; rfl
theorem MZ (hΓ : GammaOk P Γ) {ops : Array Oper} {i : Nat} {o : Oper} (hi : ops[i]? = some o) {K : Kn} {s : St} {a : Act} {w : World} (S : Sim df K s a w) {k : St -> Prop} {next : Act -> World -> Prop} {Q : Exit -> Act -> World -> Prop}
  (h : EK P Γ md ops o s k) (hk : ∀ K' s' a' w', Ext K K' -> Sim df K' s' a' w' -> k s' -> next a' w') : wpOp P ops Q i next a w := by
 have eff : BB P Γ (Ba md o.dst) o.op (opD s.sl) s.h (fun d h' => k ⟨Ez s.sl o.dst d, h'⟩) -> o.wp P a w next Q := fun he =>
  NQ hΓ S.h S.eval he fun v d K' h' w' E H' hv hd => hk K' _ _ _ E (S.put E H' hv) hd
 have skip : k ⟨Ez s.sl o.dst (.tup []), s.h⟩ -> next (a.put o.dst undef) w := fun hs => hk K _ _ _ (Ext.refl K) (S.put (Ext.refl K) S.h KH) hs
 unfold wpOp;rw [hi];simp only;unfold EK at h;split at h
 ·rename_i hg;simp only [Region.wanted, hg, if_true];exact .inl (eff h)
 ·rename_i j want hg;obtain ⟨y1, y2⟩ := Nu S ops j;split at h
  ·rename_i b hb;have hy := y1 b hb;by_cases hbw : b = want
   ·rw [if_pos hbw] at h;subst hbw;simp only [Region.wanted, hg, hy, beq_self_eq_true, if_true];exact .inl (eff h)
   ·rw [if_neg hbw] at h;have : (some b == some want) = false := by simpa using hbw
    simp only [Region.wanted, hg, hy, this, Bool.false_eq_true, if_false];exact skip h
  ·rename_i hb;have hy := y2 hb;have : ((none : Option Bool) == some want) = false := rfl;simp only [Region.wanted, hg, hy, this, Bool.false_eq_true, if_false];exact skip h
  ·exact h.elim
theorem Fx {mode k : Nat} {es : List (List D)} {h h' : Heap} {R S : D -> Heap -> Prop} (hR : FM mode k es h h' R) (hS : ∀ d h', R d h' -> S d h') : FM mode k es h h' S := by
 unfold FM at hR ⊢;split at hR
 ·exact hS _ _ hR
 ·exact fun i h0 hz => hS _ _ (hR i h0 hz)
 ·exact ⟨hR.1, hS _ _ hR.2⟩
 ·exact fun i h0 hz => hS _ _ (hR i h0 hz)
theorem Lp {mode : Nat} {t : TypeId} {cs : List D} {h : Heap} {R S : D -> Heap -> Prop} (hR : N8 mode t h cs R) (hS : ∀ d h', R d h' -> S d h') : N8 mode t h cs S := by
 unfold N8 at hR ⊢;split at hR
 ·exact hS _ _ hR
 ·exact fun i h0 hz => hS _ _ (hR i h0 hz)
 ·exact fun i h0 hz => hS _ _ (hR i h0 hz)
theorem Ix {m : Nat} {op : Op} {ρ : Operand -> D} {h : Heap} {R S : D -> Heap -> Prop} (hR : BB P Γ m op ρ h R) (hS : ∀ d h', R d h' -> S d h') : BB P Γ m op ρ h S := by
 have o : ∀ {x : Option D} {h : Heap}, OptP x (fun d => R d h) -> OptP x (fun d => S d h) := fun hx => OptP_mono hx fun d hd => hS _ _ hd
 cases op with
 | move x => exact hS _ _ hR
 | assign x => exact hS _ _ hR
 | pick c a b =>
  simp only [BB] at hR ⊢;split at hR
  ·exact hS _ _ hR
  ·exact hR.elim
 | alloc t => exact OptP_mono hR fun z hz => Lp hz hS
 | box t x => exact ⟨hR.1, Lp hR.2 hS⟩
 | build t ps => exact o hR
 | buildSlice t n ps =>
  simp only [BB, T0] at hR ⊢;split at hR
  ·exact hR.elim
  ·refine ⟨hR.1, ?_⟩;have hR2 := hR.2;split at hR2
   ·split at hR2
    ·exact ⟨hR2.1, fun i h1 h2 => hS _ _ (hR2.2 i h1 h2)⟩
    ·exact Fx hR2 hS
   ·exact hR2.elim
 | load t x => exact o hR
 | store t x y =>
  simp only [BB, Jk] at hR ⊢;split at hR
  ·split at hR
   ·exact ⟨hR.1, hR.2.1, hR.2.2.1, hS _ _ hR.2.2.2⟩
   ·exact ⟨hR.1, hR.2.1, hR.2.2.1, hS _ _ hR.2.2.2⟩
   ·exact hR.elim
  ·exact hR.elim
 | nilCheck x => exact o hR
 | makeInterface t x => exact o hR
 | binOp op t x y u => exact o hR
 | unOp op t x => exact o hR
 | convert s d x =>
  simp only [BB] at hR ⊢;split at hR
  ·simp only [TP] at hR ⊢;split at hR
   ·exact ⟨hR.1, hR.2.1, fun h1 i a b => hS _ _ (hR.2.2.1 h1 i a b), fun h1 => Fx (hR.2.2.2 h1) hS⟩
   ·exact hR.elim
  ·split at hR
   ·rename_i h5;rw [if_pos h5];unfold XL at hR ⊢;refine ⟨hR.1, ?_⟩;have hR2 := hR.2;split at hR2
    ·rename_i e he;obtain ⟨a1, a2, a3, a4, cs, a5, a6, a7⟩ := hR2;exact ⟨a1, a2, a3, a4, cs, a5, a6, hS _ _ a7⟩
    ·exact hR2.elim
   ·rename_i h5;rw [if_neg h5]; exact o hR
  ·exact o hR
 | makeFunc f a b => exact hS _ _ hR
 | makeMap t r => cases r with
  | none => exact fun i h0 hz => hS _ _ (hR i h0 hz)
  | some r => exact hR.elim
 | makeSlice t l c =>
  simp only [BB, PQ] at hR ⊢;split at hR
  ·exact ⟨hR.1, hR.2.1, hR.2.2.1, hR.2.2.2.1, Fx hR.2.2.2.2 hS⟩
  ·exact hR.elim
 | slice t x lo hi mx => cases mx with
  | none => exact o hR
  | some m => exact hR.elim
 | fieldAddr t x f => exact o hR
 | field t x f => exact o hR
 | indexAddr t x i => exact o hR
 | index t x i => exact o hR
 | lookup t x i b => exact o hR
 | mapUpdate t a k v => exact (show False from hR).elim
 | insert t a k v => exact (show False from hR).elim
 | mapEntry t a k => exact (show False from hR).elim
 | entryStore t a st v => exact (show False from hR).elim
 | range t x =>
  simp only [BB, KT] at hR ⊢;split at hR
  ·exact ⟨hR.1, fun i h0 hz => hS _ _ (hR.2 i h0 hz)⟩
  ·refine ⟨hR.1, ?_⟩;have hR2 := hR.2;split at hR2
   ·exact fun i h0 hz => hS _ _ (hR2 i h0 hz)
   ·exact hR2.elim
  ·exact hR.elim
 | next it b =>
  simp only [BB, Pa] at hR ⊢;split at hR
  ·split at hR
   ·split at hR
    ·rename_i hp; rw [if_pos hp]; exact hS _ _ hR
    ·rename_i hp; rw [if_neg hp]; exact hS _ _ hR
   ·exact hR.elim
  ·exact hR.elim
 | entry it => exact o hR
 | extract t i => exact o hR
 | call c =>
  simp only [BB] at hR ⊢;split at hR
  ·simp only [ES] at hR ⊢;split at hR
   ·exact o hR
   ·simp only [Ff] at hR ⊢;split at hR
    ·exact hR.elim
    ·split at hR
     ·exact hR.elim
     ·refine ⟨hR.1, ?_⟩;have hR2 := hR.2;split at hR2
      ·exact ⟨hR2.1, hR2.2.1, fun e => hS _ _ (hR2.2.2.1 e), fun e => Fx (hR2.2.2.2 e) hS⟩
      ·exact ⟨hR2.1, hR2.2.1, hR2.2.2.1, hR2.2.2.2.1, hR2.2.2.2.2.1, Fx hR2.2.2.2.2.2 hS⟩
      ·obtain ⟨a1, a2, a3, a4, cs, a5, a6, a7⟩ := hR2;exact ⟨a1, a2, a3, a4, cs, a5, a6, fun i h0 hz => hS _ _ (a7 i h0 hz)⟩
      ·exact hR2.elim
   ·exact (show False from hR).elim
   ·exact ⟨hR.1, fun c hc => hS _ _ (hR.2 c hc)⟩
   ·simp only [KV] at hR ⊢;split at hR
    ·split at hR
     ·exact ⟨hR.1, hR.2.1, hR.2.2.1, hR.2.2.2.1, hS _ _ hR.2.2.2.2⟩
     ·exact hR.elim
    ·exact hR.elim
   ·exact o hR
  ·split at hR
   ·split at hR
    ·exact o hR
    ·exact hR.mono hS
   ·exact hR.elim
  ·split at hR
   ·split at hR
    ·exact hR.mono hS
    ·exact hR.elim
   ·exact hR.elim
 | _ => exact hR.elim
theorem Cg {ops : Array Oper} {o : Oper} {s : St} {k k' : St -> Prop} (h : EK P Γ md ops o s k) (hk : ∀ s', k s' -> k' s') : EK P Γ md ops o s k' := by
 unfold EK at h ⊢;split at h
 ·exact Ix h fun _ _ hd => hk _ hd
 ·split at h
  ·split at h
   ·rename_i hb; rw [if_pos hb]; exact Ix h fun _ _ hd => hk _ hd
   ·rename_i hb; rw [if_neg hb]; exact hk _ h
  ·exact hk _ h
  ·exact h.elim
theorem KS {ops : Array Oper} : ∀ (l : List Oper) (k0 : Nat) {s : St} {k : St -> Prop}, (∀ j, l[j]? = ops[k0 + j]?) -> ON P Γ md ops l s k -> FO P Γ md ops (List.range' k0 l.length) s k
 | [], k0, s, k, _, h => h
 | o :: l, k0, s, k, hl, h => by
  have h0 : ops[k0]? = some o := by simpa using (hl 0).symm
  simp only [bi, List.range'_succ, FO, h0];simp only [ON] at h;have hm : ∀ s', ON P Γ md ops l s' k -> FO P Γ md ops (List.range' (k0 + 1) l.length) s' k := fun s' h' => KS l (k0 + 1) (fun j => by have := hl (j + 1); simpa [Nat.add_assoc, Nat.add_comm 1 j] using this) h';exact Cg h hm
def WP (P : Program) (c : Code) (Q : Exit -> St -> Prop) (s : St) : Prop := ∀ (df : List Deferred) (K : Kn) (a : Act) (w : World), Sim df K s a w -> c.wp P (PostS df K Q) a w
end
end Go.Proofs.YtjofelloaofooaaGreatDoor
