/- Pick is awake. No condition. -/
import Derived.Test.YtmnbjcpikllknaaGreatDoorPf
import Derived.KernelRfl
import Derived.Test.YtmnbjcpikllknaaGreatDoorPl1
import Derived.Lib.MapLaws
import Derived.Lib.TrimUEq
namespace Go.Proofs.YtmnbjcpikllknaaGreatDoor
set_option maxRecDepth 100000
theorem Ua : C7 = some true := by kernel_rfl

set_option linter.unusedSimpArgs false
set_option linter.unusedVariables false
set_option maxRecDepth 20000
structure Cmp {α : Type} (f : α -> α -> Int) : Prop where
 rng : ∀ a b, f a b = -1 \/ f a b = 0 \/ f a b = 1
 anti : ∀ a b, f b a = - f a b
 trans : ∀ a b c, f a b <= 0 -> f b c <= 0 -> f a c <= 0
theorem Cmp.refl {α : Type} {f : α -> α -> Int} (h : Cmp f) (a : α) : f a a = 0 := by have := h.anti a a; omega
theorem Cmp.eqL {α : Type} {f : α -> α -> Int} (h : Cmp f) {a b : α} (c : α) (e : f a b = 0) : f b c = f a c := by
 have e' : f b a = 0 := by rw [h.anti a b, e]; rfl
 have h1 := h.trans a b c; have h2 := h.trans b a c;have h3 := h.trans c b a; have h4 := h.trans c a b;have a1 := h.anti a c; have a2 := h.anti b c;have r1 := h.rng a c; have r2 := h.rng b c;omega
theorem Cmp.eqR {α : Type} {f : α -> α -> Int} (h : Cmp f) {b c : α} (a : α) (e : f b c = 0) : f a b = f a c := by
 have := h.eqL a e;have a1 := h.anti a b; have a2 := h.anti a c;omega
theorem Cmp.lex {α β : Type} {f : α -> α -> Int} {g : β -> β -> Int} (hf : Cmp f) (hg : Cmp g) : Cmp (fun x y : α × β => if f x.1 y.1 ≠ 0 then f x.1 y.1 else g x.2 y.2) := by
 refine ⟨fun a b => ?_, fun a b => ?_, fun a b c h1 h2 => ?_⟩
 ·by_cases h : f a.1 b.1 = 0
  ·simpa [h] using hg.rng a.2 b.2
  ·rw [if_pos h]; exact hf.rng _ _
 ·have := hf.anti a.1 b.1;by_cases h : f a.1 b.1 = 0
  ·have h' : f b.1 a.1 = 0 := by omega
   simpa [h, h'] using hg.anti a.2 b.2
  ·have h' : ¬ f b.1 a.1 = 0 := by omega
   rw [if_pos h, if_pos h', this]
 ·by_cases e1 : f a.1 b.1 = 0
  ·have e := hf.eqL c.1 e1;by_cases e2 : f b.1 c.1 = 0
   ·have e3 : f a.1 c.1 = 0 := by omega
    simp only [ne_eq, e1, e2, e3, not_true_eq_false, if_false] at h1 h2 ⊢;exact hg.trans _ _ _ h1 h2
   ·have e3 : ¬ f a.1 c.1 = 0 := by omega
    simp only [ne_eq, e2, e3, not_false_eq_true, if_true] at h2 ⊢;omega
  ·by_cases e2 : f b.1 c.1 = 0
   ·have e := hf.eqR a.1 e2;have e3 : ¬ f a.1 c.1 = 0 := by omega
    simp only [ne_eq, e1, e3, not_false_eq_true, if_true] at h1 ⊢;omega
   ·simp only [ne_eq, e1, e2, not_false_eq_true, if_true] at h1 h2;have h3 := hf.trans _ _ _ h1 h2;by_cases e3 : f a.1 c.1 = 0
    ·exfalso;have e4 := hf.anti a.1 b.1;have e5 := hf.eqL b.1 (show f c.1 a.1 = 0 by rw [hf.anti, e3]; rfl);have e6 := hf.anti b.1 c.1;have r := hf.rng a.1 b.1;omega
    ·simp only [ne_eq, e3, not_false_eq_true, if_true]; exact h3
theorem Cmp.comap {α β : Type} {f : α -> α -> Int} (hf : Cmp f) (k : β -> α) : Cmp (fun x y => f (k x) (k y)) :=
 ⟨fun a b => hf.rng _ _, fun a b => hf.anti _ _, fun a b c => hf.trans _ _ _⟩
def Id (a b : Int) : Int := if a < b then -1 else if b < a then 1 else 0
theorem MD : Cmp Id := by
 refine ⟨fun a b => ?_, fun a b => ?_, fun a b c => ?_⟩ <;> unfold Id <;> (repeat' split) <;> omega
def Lf : List UInt8 -> List UInt8 -> Int
 | [], [] => 0
 | [], _ :: _ => -1
 | _ :: _, [] => 1
 | a :: x, b :: y => if Id a.toNat b.toNat ≠ 0 then Id a.toNat b.toNat else Lf x y
theorem Pl : Cmp Lf := by
 have hI := MD;refine ⟨fun a => ?_, fun a => ?_, fun a => ?_⟩
 ·induction a with
  | nil => intro b; cases b <;> simp [Lf]
  | cons x a ih =>
   intro b
   cases b with
   | nil => simp [Lf]
   | cons y b =>
    simp only [Lf];split
    ·exact hI.rng _ _
    ·exact ih b
 ·induction a with
  | nil => intro b; cases b <;> simp [Lf]
  | cons x a ih =>
   intro b
   cases b with
   | nil => simp [Lf]
   | cons y b =>
    simp only [Lf];have := hI.anti x.toNat y.toNat;have := ih b;split <;> split <;> omega
 ·induction a with
  | nil => intro b c h1 h2; cases b <;> cases c <;> simp_all [Lf]
  | cons x a ih =>
   intro b c h1 h2
   cases b with
   | nil => simp [Lf] at h1
   | cons y b =>
    cases c with
    | nil => simp [Lf] at h2
    | cons z c =>
     simp only [Lf] at h1 h2 ⊢;have t := hI.trans x.toNat y.toNat z.toNat;have l := fun e => hI.eqL (a := (x.toNat : Int)) (b := y.toNat) z.toNat e;have r := fun e => hI.eqR (b := (y.toNat : Int)) (c := z.toNat) x.toNat e;have an := hI.anti (x.toNat : Int) y.toNat;have l2 := fun e => hI.eqL (a := (x.toNat : Int)) (b := z.toNat) y.toNat e;have an2 := hI.anti (y.toNat : Int) z.toNat;have := ih b c;split at h1 <;> split at h2 <;> split <;> omega
theorem MX : ∀ a b : List UInt8, (if Op.bytesLess a b then (-1 : Int) else if !(Op.bytesLess a b || a == b) then 1 else 0) = Lf a b
 | [], [] => by simp [Op.bytesLess, Lf]
 | [], _ :: _ => by simp [Op.bytesLess, Lf]
 | _ :: _, [] => by simp [Op.bytesLess, Lf]
 | a :: x, b :: y => by
  have ih := MX x y;simp only [Op.bytesLess, Lf, Id];rw [<- ih];by_cases h1 : a < b
  ·have : a.toNat < b.toNat := h1;have h3 : ((a.toNat : Int) < b.toNat) := by omega
   simp [h1, h3]
  ·by_cases h2 : a = b
   ·subst h2;simp [UInt8.lt_irrefl]
   ·have h4 : ¬ a.toNat < b.toNat := h1;have h5 : a.toNat ≠ b.toNat := fun e => h2 (UInt8.toNat_inj.1 e);have h6 : ¬ ((a.toNat : Int) < b.toNat) := by omega
    have h7 : ((b.toNat : Int) < a.toNat) := by omega
    simp [h1, h2, h6, h7]
def Ob : List Int -> List Int -> Int
 | a :: l, b :: m => if Id a b ≠ 0 then Id a b else Ob l m
 | _, _ => 0
def GW : List Int -> List Int -> Int
 | [], [] => 0
 | [], _ :: _ => -1
 | _ :: _, [] => 1
 | a :: l, b :: m => if Id a b ≠ 0 then Id a b else GW l m
theorem Iy : Cmp GW := by
 have hI := MD;refine ⟨fun a => ?_, fun a => ?_, fun a => ?_⟩
 ·induction a with
  | nil => intro b; cases b <;> simp [GW]
  | cons x a ih =>
   intro b
   cases b with
   | nil => simp [GW]
   | cons y b =>
    simp only [GW];split
    ·exact hI.rng _ _
    ·exact ih b
 ·induction a with
  | nil => intro b; cases b <;> simp [GW]
  | cons x a ih =>
   intro b
   cases b with
   | nil => simp [GW]
   | cons y b =>
    simp only [GW];have := hI.anti x y;have := ih b;split <;> split <;> omega
 ·induction a with
  | nil => intro b c h1 h2; cases b <;> cases c <;> simp_all [GW]
  | cons x a ih =>
   intro b c h1 h2
   cases b with
   | nil => simp [GW] at h1
   | cons y b =>
    cases c with
    | nil => simp [GW] at h2
    | cons z c =>
     simp only [GW] at h1 h2 ⊢;have t := hI.trans x y z;have l := fun e => hI.eqL (a := x) (b := y) z e;have r := fun e => hI.eqR (b := y) (c := z) x e;have an := hI.anti x y;have l2 := fun e => hI.eqL (a := x) (b := z) y e;have an2 := hI.anti y z;have := ih b c;split at h1 <;> split at h2 <;> split <;> omega
theorem Nq {a b : Int} (h : Id a b = 0) : a = b := by unfold Id at h; (repeat' split at h) <;> omega
theorem Nr (a : Int) : Id a a = 0 := MD.refl a
theorem M4 : ∀ {a b : List Int}, GW a b = 0 -> a = b
 | [], [], _ => rfl
 | [], _ :: _, h => by simp [GW] at h
 | _ :: _, [], h => by simp [GW] at h
 | a :: x, b :: y, h => by
  simp only [GW] at h;split at h
  ·rename_i h1; exact absurd h h1
  ·rename_i h1;rw [Nq (Classical.not_not.1 h1), M4 h]
theorem Qx : ∀ a b : List Int, GW a b = if Ob a b ≠ 0 then Ob a b else Id a.length b.length
 | [], [] => by simp [GW, Ob, Id]
 | [], _ :: l => by simp [GW, Ob, Id] <;> omega
 | _ :: l, [] => by simp [GW, Ob, Id] <;> omega
 | a :: x, b :: y => by
  have ih := Qx x y;have e : Id ((a :: x).length : Int) ((b :: y).length : Int) = Id x.length y.length := by
   simp only [Id, List.length_cons]
   (repeat' split) <;> omega
  rw [e];simp only [GW, Ob];by_cases h : Id a b = 0
  ·simp [h, ih]
  ·simp [h]
theorem Tk : ∀ {l m : List Int}, l <+: m -> GW l m <= 0
 | [], [], _ => by simp [GW]
 | [], _ :: _, _ => by simp [GW]
 | a :: l, [], h => by simp at h
 | a :: l, b :: m, h => by
  obtain ⟨rfl, h'⟩ := List.cons_prefix_cons.1 h;simp only [GW, Nr];simpa using Tk h'
theorem TI : ∀ {l m n : List Int}, l <+: m -> GW l n < 0 -> ¬ l <+: n -> GW m n < 0
 | [], _, _, _, _, h => absurd (List.nil_prefix) h
 | a :: l, [], _, h, _, _ => by simp at h
 | a :: l, b :: m, [], _, h, _ => by simp [GW] at h
 | a :: l, b :: m, c :: n, h, h1, h2 => by
  obtain ⟨rfl, h'⟩ := List.cons_prefix_cons.1 h;simp only [GW] at h1 ⊢;by_cases e : Id a c = 0
  ·have := Nq e;subst this;simp only [Nr, ne_eq, not_true_eq_false, if_false] at h1 ⊢;exact TI h' h1 (fun h3 => h2 (List.cons_prefix_cons.2 ⟨rfl, h3⟩))
  ·simp only [ne_eq, e, not_false_eq_true, if_true] at h1 ⊢;exact h1
def NY (a b : Aa) : Int := if Lf a.URI b.URI ≠ 0 then Lf a.URI b.URI else Lf a.Local b.Local
theorem MZ : Cmp NY := (Pl.lex Pl).comap fun x : Aa => (x.URI, x.Local)
def Ol (x y : Bool × Aa) : Int := if x.1 && y.1 then NY x.2 y.2 else if x.1 then 1 else if y.1 then -1 else 0
theorem R3 : Cmp Ol := by
 have h := MZ;refine ⟨fun a b => ?_, fun a b => ?_, fun a b c => ?_⟩
 ·have := h.rng a.2 b.2;rcases a with ⟨_ | _, a⟩ <;> rcases b with ⟨_ | _, b⟩ <;> simp_all [Ol]
 ·have := h.anti a.2 b.2;rcases a with ⟨_ | _, a⟩ <;> rcases b with ⟨_ | _, b⟩ <;> simp_all [Ol]
 ·have := h.trans a.2 b.2 c.2;rcases a with ⟨_ | _, a⟩ <;> rcases b with ⟨_ | _, b⟩ <;> rcases c with ⟨_ | _, c⟩ <;> simp_all [Ol]
def Ji (p q : An) : Int := if GW p.Steps q.Steps ≠ 0 then GW p.Steps q.Steps else Ol (p.Attr, p.Name) (q.Attr, q.Name)
theorem PW : Cmp Ji := (Iy.lex R3).comap fun x : An => (x.Steps, x.Attr, x.Name)
theorem TN (a b : Int) : B6 a b = some (Id a b) := by
 unfold B6 DI Id;simp only [bne_self_eq_false, Option.bind_some, cond_false];by_cases h : a < b
 ·simp [h]
 ·by_cases h2 : b < a <;> simp [h, h2]
theorem TS (a b : List UInt8) : BX a b = some (Lf a b) := by
 unfold BX CY;rw [<- MX];simp only [beq_self_eq_true, Bool.not_true, Option.bind_some, cond_false];cases h1 : Op.bytesLess a b <;> cases h2 : (a == b) <;> rfl
theorem X3 (x y : Int) : Fg [x, y] = some (if x ≠ 0 then x else y) := by
 have key : ∀ n, iter (Bv [x, y]) (n + 3) (0 : Int) = some (if x ≠ 0 then .inr x else if y ≠ 0 then .inr y else .inl ()) := fun n => by
  have a0 : ∀ r, Bv [x, y] r 0 = if x ≠ 0 then some (.inr x) else r 1 := fun r => by
   unfold Bv;by_cases h : x = 0
   ·subst h; rfl
   ·have : (x != 0) = true := by simpa using h
    simp [idx, h, this]
  have a1 : ∀ r, Bv [x, y] r 1 = if y ≠ 0 then some (.inr y) else r 2 := fun r => by
   unfold Bv;by_cases h : y = 0
   ·subst h; rfl
   ·have : (y != 0) = true := by simpa using h
    simp [idx, h, this]
  have a2 : ∀ r, Bv [x, y] r 2 = some (.inl ()) := fun r => rfl;show Bv [x, y] (iter _ (n + 2)) 0 = _;rw [a0];show (if x ≠ 0 then _ else Bv [x, y] (iter _ (n + 1)) 1) = _;rw [a1];show (if x ≠ 0 then _ else if y ≠ 0 then _ else Bv [x, y] (iter _ n) 2) = _;rw [a2];by_cases h : x = 0
  ·by_cases h2 : y = 0 <;> simp [h, h2]
  ·simp [h]
 unfold Fg;simp only [letJ];rw [show FUEL = 18446744073709551613 + 3 from rfl, key];by_cases h : x = 0
 ·by_cases h2 : y = 0 <;> simp [h, h2]
 ·simp [h]
theorem R5 (a b : Aa) : Eh a b = some (NY a b) := by
 unfold Eh;rw [TS, TS, Option.bind_some, Option.bind_some, X3, Option.bind_some]; rfl
theorem MI {α : Type} {l : List α} {i : Nat} (h : i < l.length) : l.drop i = l[i] :: l.drop (i + 1) := List.drop_eq_getElem_cons h
theorem V2 (p q : An) (hp : p.Steps.length <= 9223372036854775807) (hq : q.Steps.length <= 9223372036854775807) : DJ p q = some (Ji p q) := by
 unfold DJ;simp only [letJ];obtain ⟨o, h1, h2⟩ := A0 (b := Cq p q) (fun i x => x = (i : Int) /\ Ob p.Steps q.Steps = Ob (p.Steps.drop i) (q.Steps.drop i))
  (fun o => match o with | .inl _ => Ob p.Steps q.Steps = 0 | .inr c => c ≠ 0 /\ c = Ob p.Steps q.Steps) (min p.Steps.length q.Steps.length) (x0 := (0 : Int)) ⟨rfl, by simp⟩
  (fun i x rec hi ⟨hx, hI⟩ => by
   subst hx;have hi1 : i < p.Steps.length := by omega
   have hi2 : i < q.Steps.length := by omega
   have hc : Cq p q rec (i : Int) = cond (Id p.Steps[i] q.Steps[i] != 0) (some (.inr (Id p.Steps[i] q.Steps[i]))) (rec ((i + 1 : Nat) : Int)) := by
    unfold Cq;rw [decide_eq_true (by split <;> omega), cond_true, AG hi1, Option.bind_some, AG hi2, Option.bind_some, TN, Option.bind_some, w64 (by omega) (by omega)]; rfl
   rw [MI hi1, MI hi2, Ob] at hI;by_cases e : Id p.Steps[i] q.Steps[i] = 0
   ·refine .inl ⟨((i + 1 : Nat) : Int), ?_, rfl, ?_⟩
    ·rw [hc, e]; rfl
    ·simpa [e] using hI
   ·refine .inr ⟨.inr (Id p.Steps[i] q.Steps[i]), ?_, e, ?_⟩
    ·have : (Id p.Steps[i] q.Steps[i] != 0) = true := by simpa using e
     rw [hc, this]; rfl
    ·simpa [e] using hI.symm)
  (fun x rec ⟨hx, hI⟩ => ⟨.inl (), by
   subst hx;unfold Cq;rw [decide_eq_false (by split <;> omega), cond_false], by
    show Ob p.Steps q.Steps = 0;rw [hI];rcases Nat.le_total p.Steps.length q.Steps.length with h | h
    ·rw [Nat.min_eq_left h, List.drop_length]; simp [Ob]
    ·rw [Nat.min_eq_right h, List.drop_length]; cases p.Steps.drop q.Steps.length <;> simp [Ob]⟩) (n := FUEL) (by unfold FUEL; omega)
 rw [h1, Option.bind_some];unfold Ji;rw [Qx]
 cases o with
 | inr c =>
  obtain ⟨h3, h4⟩ := h2;subst h4;simp [h3]
 | inl u =>
  simp only at h2;simp only [h2, ne_eq, not_true_eq_false, if_false, TN, Option.bind_some];by_cases e : Id p.Steps.length q.Steps.length = 0
  ·simp only [e, bne_self_eq_false, cond_false, R5, Option.bind_some, not_true_eq_false, if_false, Ol];cases p.Attr <;> cases q.Attr <;> rfl
  ·have : (Id p.Steps.length q.Steps.length != 0) = true := by simpa using e
   simp [this, e]
theorem XI (l m : List Int) (hl : l.length <= 9223372036854775807) : B2 l m = some (l == m) := by
 unfold B2;by_cases hlen : l.length = m.length
 ·have e0 : ((l.length : Int) != (m.length : Int)) = false := by simp [hlen]
  rw [e0, cond_false];simp only [letJ];obtain ⟨o, h1, h2⟩ := A0 (b := Bq l m) (fun i x => x = (i : Int) /\ l.take i = m.take i)
   (fun o => match o with | .inl _ => l = m | .inr c => c = false /\ l ≠ m) l.length (x0 := (0 : Int)) ⟨rfl, by simp⟩
   (fun i x rec hi ⟨hx, hI⟩ => by
    subst hx;have hi2 : i < m.length := by omega
    have hc : Bq l m rec (i : Int) = cond (l[i] != m[i]) (some (.inr false)) (rec ((i + 1 : Nat) : Int)) := by
     unfold Bq;rw [decide_eq_true (by omega), cond_true, AG hi, Option.bind_some, AG hi2, Option.bind_some, w64 (by omega) (by omega)]; rfl
    by_cases e : l[i] = m[i]
    ·refine .inl ⟨((i + 1 : Nat) : Int), ?_, rfl, ?_⟩
     ·rw [hc, e, bne_self_eq_false]; rfl
     ·rw [List.take_add_one, List.take_add_one, hI, List.getElem?_eq_getElem hi, List.getElem?_eq_getElem hi2, e]
    ·refine .inr ⟨.inr false, ?_, rfl, ?_⟩
     ·have : (l[i] != m[i]) = true := by simpa using e
      rw [hc, this]; rfl
     ·intro h; subst h; exact e rfl)
   (fun x rec ⟨hx, hI⟩ => ⟨.inl (), by
    subst hx;unfold Bq;rw [decide_eq_false (by omega), cond_false], by
     show l = m;rw [List.take_length] at hI
     rw [hI, hlen, List.take_length]⟩) (n := FUEL) (by unfold FUEL; omega)
  rw [h1, Option.bind_some]
  cases o with
  | inl u => simp only at h2; simp [h2]
  | inr c => obtain ⟨h3, h4⟩ := h2; subst h3; simp [h4]
 ·have e0 : ((l.length : Int) != (m.length : Int)) = true := by simp; omega
  rw [e0, cond_true];have : (l == m) = false := by simp; intro h; exact hlen (by rw [h])
  rw [this]
theorem S9 {α : Type} {l : List α} {n : Nat} (h : n <= l.length) : slc l (0 : Int) (n : Int) = some (l.take n) := by
 unfold slc; rw [if_pos (by omega)]; simp
theorem GX {σ ρ : Type} (b : (σ -> Option ρ) -> σ -> Option ρ) (n : Nat) (x : σ) : iter b (n + 1) x = b (iter b n) x := rfl
theorem HC {α : Type} {l : List α} {n : Nat} (h : n <= l.length) : slc l (n : Int) (l.length : Int) = some (l.drop n) := by
 unfold slc; rw [if_pos (by omega)]; simp only [Int.toNat_natCast]; rw [List.take_of_length_le (by simp)]
theorem bnd {α β : Type} {x : Option α} {f : α -> Option β} {y : β} (h : x.bind f = some y) : ∃ a, x = some a /\ f a = some y := Option.bind_eq_some_iff.1 h
theorem O3 {σ ρ : Type} {b : (σ -> Option ρ) -> σ -> Option ρ} (I : Nat -> σ -> Prop) (N : Nat) {x0 : σ} (h0 : I 0 x0)
  (hs : ∀ i x rec, i < N -> I i x -> (∃ y, b rec x = rec y /\ I (i + 1) y) \/ ∃ o, b rec x = some o) (he : ∀ x rec, I N x -> ∃ o, b rec x = some o) (hN : N <= 1073741824) : ∃ o, iter b FUEL x0 = some o := by
 obtain ⟨o, e, _⟩ := A0 (b := b) I (fun _ => True) N (x0 := x0) h0 (fun i x rec hi hx => (hs i x rec hi hx).imp id fun ⟨o, e⟩ => ⟨o, e, trivial⟩) (fun x rec hx => (he x rec hx).imp fun o e => ⟨e, trivial⟩) (n := FUEL) (by unfold FUEL; omega);exact ⟨o, e⟩

set_option linter.unusedSimpArgs false
set_option linter.unusedVariables false
set_option maxRecDepth 20000
/- A node's size: how many values and letters it holds. -/
mutual
def A5 : Ab -> Nat
 | ⟨Kind, Name, Attrs, Kids, Text⟩ => (1 + ((((Name.URI.length + 1) + ((Name.Local.length + 1) + 0)) + 1) + (((List.map (fun x : Ah => ((((x.Name.URI.length + 1) + ((x.Name.Local.length + 1) + 0)) + 1) + ((x.Value.length + 1) + 0)) + 1) Attrs).sum + 1) + ((Je Kids + 1) + ((Text.length + 1) + 0))))) + 1
def Je : List Ab -> Nat
 | [] => 0
 | x :: l => A5 x + Je l
end
theorem Jw : ∀ l : List Ab, Je l = (l.map A5).sum
 | [] => by simp [Je]
 | x :: l => by simp [Je, Jw l]
abbrev szN := A5
theorem OA {α : Type} (f : α -> Nat) (hf : ∀ x, 1 <= f x) : ∀ l : List α, l.length <= (l.map f).sum
 | [] => by simp
 | x :: l => by have := OA f hf l; have := hf x; simp only [List.length_cons, List.map_cons, List.sum_cons]; omega
theorem MA (x : Ab) : 1 <= szN x := by cases x; simp only [szN, A5]; omega
theorem FB (x : Ab) : Je x.Kids < szN x := by cases x; simp only [szN, A5]; omega
theorem Pa {l : List Ab} {y : Ab} (h : y ∈ l) : szN y <= Je l := by
 induction l with
 | nil => cases h
 | cons x l ih =>
  simp only [Je]
  cases h with
  | head => show szN y <= A5 y + _; exact Nat.le_add_right _ _
  | tail _ h => have := ih h; omega
theorem G5 {x y : Ab} (h : y ∈ x.Kids) : szN y < szN x := Nat.lt_of_le_of_lt (Pa h) (FB x)
theorem EW (x : Ab) : x.Kids.length <= szN x := by
 have h1 := FB x;have h2 := OA szN MA x.Kids;rw [Jw] at h1;have : (List.map szN x.Kids).sum = (List.map A5 x.Kids).sum := rfl;omega
theorem Ff (x : Ab) : x.Attrs.length <= szN x := by
 cases x with
 | mk K N A Ks T =>
  have h := OA (fun x : Ah => ((((x.Name.URI.length + 1) + ((x.Name.Local.length + 1) + 0)) + 1) + ((x.Value.length + 1) + 0)) + 1) (fun x => by omega) A;simp only [szN, A5];omega
theorem SB (x : Ab) : x.Text.length + Je x.Kids <= szN x := by cases x; simp only [szN, A5]; omega
theorem O1 (x : Ab) : (⟨x.Kind, ⟨x.Name.URI, x.Name.Local⟩, x.Attrs, x.Kids, x.Text⟩ : Ab) = x := by cases x; rfl
theorem Rv (p : Ab) (rec0 : Ab -> Option Ab) (hrec : ∀ k ∈ p.Kids, rec0 k = some k) (hk : p.Kids.length <= 1048576) :
  iter (Dr p rec0) FUEL (p.Kind, p.Name.URI, p.Name.Local, p.Attrs, ([] : List Ab), p.Text, (0 : Int)) = some (p.Kind, p.Name.URI, p.Name.Local, p.Attrs, p.Kids, p.Text) := by
 obtain ⟨o, h1, h2⟩ := A0 (b := Dr p rec0) (fun i x => x = (p.Kind, p.Name.URI, p.Name.Local, p.Attrs, p.Kids.take i, p.Text, (i : Int))) (fun o => o = (p.Kind, p.Name.URI, p.Name.Local, p.Attrs, p.Kids, p.Text)) p.Kids.length
  (x0 := (p.Kind, p.Name.URI, p.Name.Local, p.Attrs, ([] : List Ab), p.Text, (0 : Int))) (by simp)
  (fun i x rec hi hx => .inl ⟨(p.Kind, p.Name.URI, p.Name.Local, p.Attrs, p.Kids.take (i + 1), p.Text, ((i + 1 : Nat) : Int)), by
   subst hx;have hl : (p.Kids.take i).length <= 1048576 := by simp; omega
   unfold Dr;simp only
   rw [decide_eq_true (by omega), cond_true, AG hi, Option.bind_some, hrec _ (List.getElem_mem hi), Option.bind_some, Cy (by simp only [List.length_singleton]; omega) (by simp only [List.length_singleton]; omega), Option.bind_some, w64 (by omega) (by omega),
    List.take_add_one, List.getElem?_eq_getElem hi]; rfl, rfl⟩)
  (fun x rec hx => ⟨_, by
   subst hx;unfold Dr;simp only
   rw [decide_eq_false (by omega), cond_false], by rw [List.take_length]⟩) (n := FUEL) (by unfold FUEL; omega)
 rw [h1, h2]
theorem Tm : ∀ (n : Nat) (p : Ab), szN p < n -> szN p <= 1048576 -> iter B9 n p = some p
 | 0, p, h, _ => by omega
 | n + 1, p, h, hB => by
  show B9 (iter B9 n) p = some p;have hr := fun k hk hb => Tm n k hk hb;generalize iter B9 n = R at *;unfold B9;have ha := Ff p;have hk := EW p;simp only [letJ, List.nil_append];rw [Cy (by simp only [List.length_nil]; omega) (by simp only [List.length_nil]; omega), Option.bind_some];rw [Rv p _ (fun k hk => hr k (by have := G5 hk; omega) (by have := G5 hk; omega)) (by omega), Option.bind_some];simp only [O1]
theorem Vo (p : Ab) (h : szN p <= 1048576) : H8 p = some p := Tm FUEL p (by unfold FUEL; omega) h
/- The text below a node. -/
def gT (k : Ab) : List UInt8 := if k.Kind = 3 then k.Text else []
mutual
def HW : Ab -> List UInt8
 | ⟨_, _, _, Kids, _⟩ => El Kids
def El : List Ab -> List UInt8
 | [] => []
 | k :: l => (gT k ++ HW k) ++ El l
end
theorem QE (x : Ab) : HW x = El x.Kids := by cases x; simp only [HW]
theorem GR : ∀ l m : List Ab, El (l ++ m) = El l ++ El m
 | [], m => by simp [El]
 | k :: l, m => by simp [El, GR l m]
theorem OL {l : List Ab} {i : Nat} (h : i < l.length) : El (l.take (i + 1)) = El (l.take i) ++ (gT l[i] ++ HW l[i]) := by
 rw [List.take_add_one, List.getElem?_eq_getElem h, GR]; simp [El]
theorem Wm (k : Ab) : (gT k).length <= k.Text.length := by unfold gT; split <;> simp
mutual
theorem Qg : ∀ x : Ab, (HW x).length <= Je x.Kids
 | ⟨_, _, _, Kids, _⟩ => by simp only [HW]; exact IX Kids
theorem IX : ∀ l : List Ab, (El l).length <= Je l
 | [] => by simp [El]
 | k :: l => by
  have h1 := Qg k;have h2 := IX l;have h3 := SB k;have h4 := Wm k;simp only [El, Je, List.length_append];have : szN k = A5 k := rfl;omega
end
theorem JT (l : List Ab) (i : Nat) : (El (l.take i)).length <= (El l).length := by
 have := GR (l.take i) (l.drop i);rw [List.take_append_drop] at this;rw [this]; simp
theorem MF {a b : List UInt8} (h : a.length + b.length <= 9223372036854775807) : cat a b = some (a ++ b) := by unfold cat; rw [if_pos h]
theorem Qt : ∀ (n : Nat) (p : Ab), szN p < n -> szN p <= 1048576 -> iter BE n p = some (HW p)
 | 0, p, h, _ => by omega
 | n + 1, p, h, hB => by
  show BE (iter BE n) p = some (HW p);have hrr := fun k hk hb => Qt n k hk hb;generalize iter BE n = RR at *;unfold BE;have hk := EW p;have hk2 := FB p;have htl := IX p.Kids;simp only [letJ];obtain ⟨o, h1, h2⟩ := A0 (b := Do p RR) (fun i x => x = (El (p.Kids.take i), (i : Int))) (fun o => o = El p.Kids) p.Kids.length (x0 := (([] : List UInt8), (0 : Int))) (by simp [El])
   (fun i x rec hi hx => .inl ⟨(El (p.Kids.take (i + 1)), ((i + 1 : Nat) : Int)), by
    subst hx;have hm := List.getElem_mem hi;have hz := G5 hm;have hr := hrr p.Kids[i] (by omega) (by omega);have hl1 := JT p.Kids (i + 1);rw [OL hi] at hl1 ⊢;simp only [List.length_append] at hl1;unfold Do;simp only [letJ];rw [decide_eq_true (by omega), cond_true, AG hi, Option.bind_some, hr, w64 (by omega) (by omega)];by_cases e : p.Kids[i].Kind = 3
    ·have hg : gT p.Kids[i] = p.Kids[i].Text := by unfold gT; rw [if_pos e]
     rw [hg] at hl1 ⊢;rw [show (p.Kids[i].Kind == (3 : Int)) = true by simpa using e, cond_true, MF (by omega), Option.bind_some, Option.bind_some, MF (by simp only [List.length_append]; omega), Option.bind_some, List.append_assoc]; rfl
    ·have hg : gT p.Kids[i] = [] := by unfold gT; rw [if_neg e]
     rw [hg] at hl1 ⊢
     rw [show (p.Kids[i].Kind == (3 : Int)) = false by simpa using e, cond_false, Option.bind_some, MF (by omega), Option.bind_some, List.nil_append]; rfl, rfl⟩)
   (fun x rec hx => ⟨_, by
    subst hx;unfold Do;simp only
    rw [decide_eq_false (by omega), cond_false], by rw [List.take_length]⟩) (n := FUEL) (by unfold FUEL; omega)
  rw [h1, Option.bind_some, h2, QE]
theorem U0 (p : Ab) (h : szN p <= 1048576) : GJ p = some (HW p) := Qt FUEL p (by unfold FUEL; omega) h
/- All nodes, the whole first. -/
mutual
def DW : Ab -> List Ab
 | ⟨K, N, A, Kids, T⟩ => ⟨K, N, A, Kids, T⟩ :: EI Kids
def EI : List Ab -> List Ab
 | [] => []
 | k :: l => DW k ++ EI l
end
theorem IA (x : Ab) : DW x = x :: EI x.Kids := by cases x; simp only [DW]
theorem GZ : ∀ l m : List Ab, EI (l ++ m) = EI l ++ EI m
 | [], m => by simp [EI]
 | k :: l, m => by simp [EI, GZ l m]
theorem PN {l : List Ab} {i : Nat} (h : i < l.length) : EI (l.take (i + 1)) = EI (l.take i) ++ DW l[i] := by
 rw [List.take_add_one, List.getElem?_eq_getElem h, GZ]; simp [EI]
mutual
theorem M9 : ∀ x : Ab, (DW x).length <= szN x
 | ⟨K, N, A, Kids, T⟩ => by
  have h1 := GD Kids;have h2 := FB ⟨K, N, A, Kids, T⟩;simp only [DW, List.length_cons];simp only at h2;omega
theorem GD : ∀ l : List Ab, (EI l).length <= Je l
 | [] => by simp [EI]
 | k :: l => by
  have h1 := M9 k;have h2 := GD l;simp only [EI, Je, List.length_append];have : szN k = A5 k := rfl;omega
end
theorem Ld (l : List Ab) (i : Nat) : (EI (l.take i)).length <= (EI l).length := by
 have := GZ (l.take i) (l.drop i);rw [List.take_append_drop] at this;rw [this]; simp
def atP : Ab -> List Int -> Option Ab
 | x, [] => some x
 | x, s :: r => if s < 0 \/ (x.Kids.length : Int) <= s then none else (x.Kids[s.toNat]?).bind fun y => atP y r
theorem OY : ∀ (l : List Int) (x : Ab) (i : Nat), atP x (l ++ [(i : Int)]) = (atP x l).bind fun y => y.Kids[i]?
 | [], x, i => by
  simp only [List.nil_append, atP, Option.bind_some];by_cases h : i < x.Kids.length
  ·rw [if_neg (by omega)]; simp [h]
  ·rw [if_pos (by omega)]; simp [h]
 | s :: r, x, i => by
  simp only [List.cons_append, atP];split
  ·rfl
  ·cases x.Kids[s.toNat]? with
   | none => rfl
   | some y => simp only [Option.bind_some]; exact OY r y i
theorem Sb : ∀ (l : List Int) (x y : Ab), atP x l = some y -> szN y <= szN x
 | [], x, y, h => by simp only [atP, Option.some.injEq] at h; subst h; exact Nat.le_refl _
 | s :: r, x, y, h => by
  simp only [atP] at h;split at h
  ·cases h
  ·obtain ⟨z, hz, h2⟩ := Option.bind_eq_some_iff.1 h;have h3 := Sb r z y h2;have h4 := G5 (List.mem_of_getElem? hz);omega
def KP : Ab := ⟨0, ⟨[], []⟩, [], [], []⟩
theorem YI (p : Ab) (l : List Int) (h : szN p <= 1048576) (hl : l.length <= 9223372036854775807) : He p l = some (match atP p l with | some y => (y, 0) | none => (KP, 35)) := by
 unfold He;simp only [letJ];obtain ⟨o, h1, h2⟩ := A0 (b := Fi l)
  (fun i x => ∃ y : Ab, x = (y.Kind, y.Name.URI, y.Name.Local, y.Attrs, y.Kids, y.Text, (0 : Int), ([] : List UInt8), ([] : List UInt8), ([] : List Ah), ([] : List Ab), ([] : List UInt8), (i : Int)) /\ atP p l = atP y (l.drop i))
  (fun o => match o with
   | .inl s => ∃ y : Ab, s = (y.Kind, y.Name.URI, y.Name.Local, y.Attrs, y.Kids, y.Text, (0 : Int), ([] : List UInt8), ([] : List UInt8), ([] : List Ah), ([] : List Ab), ([] : List UInt8)) /\ atP p l = some y
   | .inr c => c = (KP, 35) /\ atP p l = none) l.length
  (x0 := (p.Kind, p.Name.URI, p.Name.Local, p.Attrs, p.Kids, p.Text, (0 : Int), ([] : List UInt8), ([] : List UInt8), ([] : List Ah), ([] : List Ab), ([] : List UInt8), (0 : Int))) ⟨p, rfl, by simp⟩
  (fun i x rec hi ⟨y, hx, hI⟩ => by
   subst hx;rw [MI hi] at hI;simp only [atP] at hI;unfold Fi;simp only;rw [decide_eq_true (by omega), cond_true, AG hi, Option.bind_some, w64 (by omega) (by omega)];by_cases hc : l[i] < 0 \/ (y.Kids.length : Int) <= l[i]
   ·refine .inr ⟨.inr (KP, 35), ?_, show (KP, 35) = (KP, 35) /\ atP p l = none from ⟨rfl, by rw [hI, if_pos hc]⟩⟩;have : (decide (l[i] < (0 : Int)) || decide ((y.Kids.length : Int) <= l[i])) = true := by simpa using hc
    rw [this]; rfl
   ·have hlt : l[i].toNat < y.Kids.length := by omega
    have : (decide (l[i] < (0 : Int)) || decide ((y.Kids.length : Int) <= l[i])) = false := by simpa using hc
    have hix : idx y.Kids l[i] = some y.Kids[l[i].toNat] := by
     have := AG hlt
     rwa [show ((l[i].toNat : Nat) : Int) = l[i] by omega] at this
    refine .inl ⟨(y.Kids[l[i].toNat].Kind, y.Kids[l[i].toNat].Name.URI, y.Kids[l[i].toNat].Name.Local, y.Kids[l[i].toNat].Attrs, y.Kids[l[i].toNat].Kids, y.Kids[l[i].toNat].Text, (0 : Int), ([] : List UInt8), ([] : List UInt8), ([] : List Ah), ([] : List Ab), ([] : List UInt8), ((i + 1 : Nat) : Int)), by rw [this, cond_false, hix, Option.bind_some]; rfl, y.Kids[l[i].toNat], rfl, ?_⟩
    rw [hI, if_neg hc, List.getElem?_eq_getElem hlt, Option.bind_some])
  (fun x rec ⟨y, hx, hI⟩ => ⟨.inl (y.Kind, y.Name.URI, y.Name.Local, y.Attrs, y.Kids, y.Text, (0 : Int), ([] : List UInt8), ([] : List UInt8), ([] : List Ah), ([] : List Ab), ([] : List UInt8)), by
   subst hx;unfold Fi;simp only
   rw [decide_eq_false (by omega), cond_false], y, rfl, by rw [hI, List.drop_length, atP]⟩) (n := FUEL) (by unfold FUEL; omega)
 rw [h1, Option.bind_some]
 cases o with
 | inr c => obtain ⟨rfl, hn⟩ := h2; rw [hn]
 | inl s =>
  obtain ⟨y, rfl, hs⟩ := h2;simp only [hs, O1];rw [Vo y (Nat.le_trans (Sb _ _ _ hs) h)]; rfl
def K6 (K : Int) (nm : Aa) : List Ah -> Option (List UInt8)
 | [] => none
 | a :: l => if (K == (2 : Int)) && ((a.Name.URI == nm.URI) && ((a.Name.Local == nm.Local) && true)) then some a.Value else K6 K nm l
def NF (p : Ab) (t : An) : List UInt8 × Int :=
 match atP p t.Steps with
 | none => ([], 35)
 | some y => if t.Attr then (match K6 y.Kind t.Name y.Attrs with | some v => (v, 0) | none => ([], 7))
  else if ((y.Kind == (3 : Int)) || (y.Kind == (4 : Int))) || (y.Kind == (5 : Int)) then (y.Text, 0) else (HW y, 0)
theorem QQ (b : (Int -> Option (Unit ⊕ (List UInt8 × Int))) -> Int -> Option (Unit ⊕ (List UInt8 × Int))) (K : Int) (nm : Aa) (l : List Ah) (hl : l.length <= 1048576)
  (hb : ∀ rec a26, b rec a26 = cond (decide (a26 < (l.length : Int)))
   ((idx l a26).bind fun x32 =>
   cond ((K == (2 : Int)) && ((x32.Name.URI == nm.URI) && ((x32.Name.Local == nm.Local) && true)))
    (some (.inr (x32.Value, (0 : Int))))
    (rec (IntKind.wrap .i64 (a26 + (1 : Int)))))
   (some (.inl ()))) :
  iter b FUEL (0 : Int) = some (match K6 K nm l with | some v => .inr (v, 0) | none => .inl ()) := by
 obtain ⟨o, h1, h2⟩ := A0 (b := b) (fun i x => x = (i : Int) /\ K6 K nm l = K6 K nm (l.drop i)) (fun o => o = (match K6 K nm l with | some v => .inr (v, 0) | none => .inl ())) l.length (x0 := (0 : Int)) ⟨rfl, by simp⟩
  (fun i x rec hi ⟨hx, hI⟩ => by
   subst hx;rw [MI hi, K6] at hI;rw [hb, decide_eq_true (by omega), cond_true, AG hi, Option.bind_some, w64 (by omega) (by omega)];cases e : ((K == (2 : Int)) && ((l[i].Name.URI == nm.URI) && ((l[i].Name.Local == nm.Local) && true)))
   ·rw [e] at hI;exact .inl ⟨_, rfl, rfl, by simpa using hI⟩
   ·rw [e] at hI;simp only [if_true] at hI
    exact .inr ⟨_, rfl, by rw [hI]⟩)
  (fun x rec ⟨hx, hI⟩ => ⟨_, by
   subst hx
   rw [hb, decide_eq_false (by omega), cond_false], by rw [hI, List.drop_length]; rfl⟩) (n := FUEL) (by unfold FUEL; omega)
 rw [h1, h2]
theorem Uz (p : Ab) (t : An) (h : szN p <= 1048576) (hl : t.Steps.length <= 9223372036854775807) : Ey p t = some (NF p t) := by
 unfold Ey NF;rw [YI p _ h hl, Option.bind_some]
 cases ha : atP p t.Steps with
 | none => rfl
 | some y =>
  have hy := Sb _ _ _ ha;have hya := Ff y;simp only [bne_self_eq_false, cond_false, letJ];cases hA : t.Attr
  ·simp only [cond_false, Bool.false_eq_true, if_false];cases e : (((y.Kind == (3 : Int)) || (y.Kind == (4 : Int))) || (y.Kind == (5 : Int)))
   ·rw [U0 y (by omega)]; rfl
   ·rfl
  ·simp only [cond_true, if_true];rw [QQ (Fw t (y, 0)) y.Kind t.Name y.Attrs (by omega) (fun rec a => rfl), Option.bind_some];cases K6 y.Kind t.Name y.Attrs <;> rfl

set_option linter.unusedSimpArgs false
set_option linter.unusedVariables false
set_option maxRecDepth 20000
open Go.Lib (decodeL decodeN)
theorem P5 (n b0 b1 b2 b3 : Nat) : (b0 < 128 -> decodeN n b0 b1 b2 b3 = (b0, 1)) /\ (2 <= (decodeN n b0 b1 b2 b3).2 -> 128 <= b1) /\ (3 <= (decodeN n b0 b1 b2 b3).2 -> 128 <= b2) /\ (4 <= (decodeN n b0 b1 b2 b3).2 -> 128 <= b3) /\ (decodeN n b0 b1 b2 b3).2 <= 4 := by
 unfold decodeN
 repeat' split
 all_goals refine ⟨fun h => ?_, fun h => ?_, fun h => ?_, fun h => ?_, ?_⟩
 all_goals first | rfl | omega | (simp only at *; omega)
theorem RT (p : List UInt8) (x k : Nat) : (p.drop x).getD k 0 = p.getD (x + k) 0 := by simp [List.getD, List.getElem?_drop]
theorem Iz (p : List UInt8) (x : Nat) (hx : x < p.length) : 1 <= (decodeL (p.drop x)).2 /\ x + (decodeL (p.drop x)).2 <= p.length /\ ((p.getD x 0).toNat < 128 -> decodeL (p.drop x) = ((p.getD x 0).toNat, 1)) /\ ∀ k, 1 <= k -> k < (decodeL (p.drop x)).2 -> 128 <= (p.getD (x + k) 0).toNat := by
 have hne : p.drop x ≠ [] := by intro h; have := congrArg List.length h; simp at this; omega
 have h1 := Lib.decodeL_width (p.drop x);have h2 := Lib.decodeL_le (p.drop x) hne;have e := Lib.decodeL_N (p.drop x);simp only [RT] at e;have f := P5 (p.drop x).length (p.getD (x + 0) 0).toNat (p.getD (x + 1) 0).toNat (p.getD (x + 2) 0).toNat (p.getD (x + 3) 0).toNat;rw [<- e] at f;obtain ⟨f0, f1, f2, f3, f4⟩ := f;rw [List.length_drop] at h2;refine ⟨h1, by omega, fun h => f0 h, fun k hk1 hk2 => ?_⟩
 match k, hk1, hk2 with
 | 1, _, hk => exact f1 (by omega)
 | 2, _, hk => exact f2 (by omega)
 | 3, _, hk => exact f3 (by omega)
 | k + 4, _, hk => omega
theorem Ti (p : List UInt8) (x : Nat) : (rnS p x = ((decodeL (p.drop x)).1 : Int)) /\ wdS p x = (decodeL (p.drop x)).2 := by
 have := Lib.decodeL_drop ⟨p.toArray⟩ x;simp only at this;unfold rnS wdS;rw [<- this];exact ⟨rfl, rfl⟩
theorem Uh (r : Int) (l : List Ao) (hl : l.length <= 9223372036854775807) : ∃ b, E6 r l = some b := by
 unfold E6;simp only [letJ];obtain ⟨o, h1, _⟩ := A0 (b := Fe r l) (fun i x => x = (i : Int)) (fun _ => True) l.length (x0 := (0 : Int)) rfl
  (fun i x rec hi hx => by
   subst hx;unfold Fe;rw [decide_eq_true (by omega), cond_true, AG hi, Option.bind_some, w64 (by omega) (by omega)];cases decide (r <= l[i].hi)
   ·exact .inl ⟨_, rfl, rfl⟩
   ·exact .inr ⟨_, rfl, trivial⟩)
  (fun x rec hx => ⟨_, by
   subst hx;unfold Fe
   rw [decide_eq_false (by omega), cond_false], trivial⟩) (n := FUEL) (by unfold FUEL; omega)
 rw [h1, Option.bind_some];cases o <;> exact ⟨_, rfl⟩
theorem OM {γ : Type} (r : Int) (k : Bool -> Option γ) (hk : ∀ b, ∃ c, k b = some c) (l : List Ao) (hl : l.length <= 9223372036854775807) : ∃ c, (E6 r l).bind k = some c := by
 obtain ⟨b, hb⟩ := Uh r l hl;rw [hb]; exact hk b
theorem Ho (r : Int) : ∃ b, C0 r = some b := by
 unfold C0;cases decide (r < (128 : Int))
 ·rw [cond_false];exact OM r _ (fun b => ⟨_, rfl⟩) _ (by decide)
 ·exact ⟨_, rfl⟩
theorem KW (r : Int) : ∃ b, Dn r = some b := by
 unfold Dn;obtain ⟨b, hb⟩ := Ho r;rw [hb, Option.bind_some];simp only [letJ];generalize ((((b || (r == (45 : Int))) || (r == (46 : Int))) || ((decide ((48 : Int) <= r)) && (decide (r <= (57 : Int))))) || (r == (183 : Int))) = c;cases c
 ·rw [cond_false];exact OM r _ (fun b => ⟨_, rfl⟩) _ (by decide)
 ·exact ⟨_, rfl⟩
theorem Oz (r : Int) : ∃ b, Ew r = some b := by
 unfold Ew;simp only [letJ];generalize (((r == (9 : Int)) || (r == (10 : Int))) || (r == (13 : Int))) = c;cases c
 ·rw [cond_false];exact OM r _ (fun b => ⟨_, rfl⟩) _ (by decide)
 ·exact ⟨_, rfl⟩
theorem Ul : Dn 123 = some false := by kernel_rfl
theorem NN (p : List UInt8) : ∃ b, EM p = some b /\ (b = true -> p.length <= 100 /\ ∀ c ∈ p, c.toNat ≠ 123) := by
 unfold EM;simp only [letJ];by_cases hbad : ((p == ([] : List UInt8)) || decide ((100 : Int) < (p.length : Int))) = true
 ·rw [hbad]; exact ⟨false, rfl, fun h => by cases h⟩
 have hb' : ((p == ([] : List UInt8)) || decide ((100 : Int) < (p.length : Int))) = false := by simpa using hbad
 have hlen : p.length <= 100 := by
  have h := (Bool.or_eq_false_iff.1 hb').2;have := of_decide_eq_false h;omega
 rw [hb', cond_false];have hv : L_ValidString p = some (Lib.validD p) := by unfold L_ValidString; rw [if_pos (by omega)]
 rw [hv, Option.bind_some];cases Lib.validD p
 ·exact ⟨false, rfl, fun h => by cases h⟩
 simp only [Bool.not_true, cond_false];obtain ⟨o, h1, h2⟩ := A0 (b := Dw p) (fun i x => i <= x /\ x <= p.length /\ ∀ k, k < x -> (p.getD k 0).toNat ≠ 123) (fun o => match o with | .inl _ => ∀ k, k < p.length -> (p.getD k 0).toNat ≠ 123 | .inr b => b = false) p.length (x0 := (0 : Nat)) ⟨Nat.le_refl _, Nat.zero_le _, fun k hk => by omega⟩
  (fun i x rec hi ⟨hx1, hx2, hx3⟩ => by
   by_cases hxl : x < p.length
   ·obtain ⟨d1, d2, d3, d4⟩ := Iz p x hxl;obtain ⟨e1, e2⟩ := Ti p x;obtain ⟨bs, hs⟩ := Ho (rnS p x);obtain ⟨bp, hp⟩ := KW (rnS p x);unfold Dw;simp only [letJ];rw [decide_eq_true hxl, cond_true, hs, hp];simp only [Option.bind_some];cases bp
    ·refine .inr ⟨.inr false, ?_, rfl⟩;simp only [Bool.not_false, cond_true];generalize (((x : Nat) : Int) == (0 : Int)) = c;cases c <;> cases bs <;> rfl
    ·have next : (x + wdS p x) <= p.length /\ ∀ k, k < x + wdS p x -> (p.getD k 0).toNat ≠ 123 := by
      rw [e2];refine ⟨d2, fun k hk => ?_⟩;by_cases hkx : k < x
      ·exact hx3 k hkx
      ·by_cases hk0 : k = x
       ·subst hk0;intro h123;have := d3 (by omega);rw [this] at e1;simp only [h123] at e1;rw [e1] at hp;have := Ul.symm.trans hp;cases this
       ·have := d4 (k - x) (by omega) (by omega);rw [show x + (k - x) = k by omega] at this;omega
     have hres : ∀ c : Bool, (cond c (cond (!bs) (cond true (some (.inr false)) (rec (x + wdS p x))) (cond (!true) (some (.inr false)) (rec (x + wdS p x)))) (cond false (cond true (some (.inr false)) (rec (x + wdS p x))) (cond (!true) (some (.inr false)) (rec (x + wdS p x)))) : Option (Unit ⊕ Bool)) = rec (x + wdS p x) \/ (cond c (cond (!bs) (cond true (some (.inr false)) (rec (x + wdS p x))) (cond (!true) (some (.inr false)) (rec (x + wdS p x)))) (cond false (cond true (some (.inr false)) (rec (x + wdS p x))) (cond (!true) (some (.inr false)) (rec (x + wdS p x)))) : Option (Unit ⊕ Bool)) = some (.inr false) := by
      intro c; cases c <;> cases bs <;> first | exact .inl rfl | exact .inr rfl
     rcases hres (((x : Nat) : Int) == (0 : Int)) with h | h
     ·exact .inl ⟨x + wdS p x, h, by rw [e2]; omega, next.1, next.2⟩
     ·exact .inr ⟨.inr false, h, rfl⟩
   ·refine .inr ⟨.inl (), ?_, fun k hk => hx3 k (by omega)⟩;unfold Dw
    rw [decide_eq_false hxl, cond_false])
  (fun x rec ⟨hx1, hx2, hx3⟩ => ⟨.inl (), by
   unfold Dw
   rw [decide_eq_false (by omega), cond_false], fun k hk => hx3 k (by omega)⟩) (n := FUEL) (by unfold FUEL; omega)
 rw [h1, Option.bind_some]
 cases o with
 | inl u =>
  refine ⟨true, rfl, fun _ => ⟨hlen, fun c hc => ?_⟩⟩;obtain ⟨k, hk, e⟩ := List.getElem_of_mem hc;have := h2 k hk;simpa [List.getD, hk, e] using this
 | inr b =>
  simp only at h2;subst h2;exact ⟨false, rfl, fun h => by cases h⟩
theorem Q3 (p : List UInt8) (x : Nat) (hx : x < p.length) (hl : p.length <= 1073741824) : ∃ r, FW p (x : Int) = some r /\ (r.2.2 = 0 -> r.2.1 = ((x + (decodeL (p.drop x)).2 : Nat) : Int)) := by
 obtain ⟨d1, d2, d3, d4⟩ := Iz p x hx;unfold FW;rw [decide_eq_false (by omega), decide_eq_false (by omega)];simp only [Bool.or_self, cond_false];have hs : slc p (x : Int) (p.length : Int) = some (p.drop x) := by
  unfold slc; rw [if_pos (by omega)]; simp only [Int.toNat_natCast]; rw [List.take_of_length_le (by simp)]
 rw [hs, Option.bind_some];have hne : p.drop x ≠ [] := by intro h; have := congrArg List.length h; simp at this; omega
 have hd : L_DecodeRune (p.drop x) = some (((decodeL (p.drop x)).1 : Int), ((decodeL (p.drop x)).2 : Int)) := by
  unfold L_DecodeRune Lib.decodeGo
  rw [if_neg hne, if_neg (by
   show ¬ ((p.drop x).toArray.size = 0)
   simp; omega)]
  rfl
 rw [hd, Option.bind_some];obtain ⟨b, hb⟩ := Oz ((decodeL (p.drop x)).1 : Int);simp only;cases ((((decodeL (p.drop x)).1 : Int) == (65533 : Int)) && decide (((decodeL (p.drop x)).2 : Int) < (3 : Int)))
 ·rw [cond_false, hb, Option.bind_some];cases b
  ·exact ⟨_, rfl, fun h => by simp at h⟩
  ·refine ⟨_, rfl, fun _ => ?_⟩;simp only;rw [w64 (by omega) (by omega)]; omega
 ·exact ⟨_, rfl, fun h => by simp at h⟩
theorem Qi (p : List UInt8) (hl : p.length <= 1073741824) : ∃ r, Fo p = some r := by
 unfold Fo;simp only [letJ];obtain ⟨o, h1, _⟩ := A0 (b := DN p) (fun i x => ∃ j : Nat, x = (j : Int) /\ i <= j /\ j <= p.length) (fun _ => True) p.length (x0 := (0 : Int)) ⟨0, rfl, Nat.le_refl _, Nat.zero_le _⟩
  (fun i x rec hi ⟨j, hx, hj1, hj2⟩ => by
   subst hx;unfold DN;by_cases hjl : j < p.length
   ·obtain ⟨r, hr, hn⟩ := Q3 p j hjl hl;obtain ⟨d1, d2, d3, d4⟩ := Iz p j hjl;rw [decide_eq_true (by omega), cond_true, hr, Option.bind_some];by_cases e : r.2.2 = 0
    ·rw [show (r.2.2 != (0 : Int)) = false by simpa using e, cond_false];exact .inl ⟨_, rfl, _, hn e, by omega, d2⟩
    ·rw [show (r.2.2 != (0 : Int)) = true by simpa using e, cond_true];exact .inr ⟨_, rfl, trivial⟩
   ·rw [decide_eq_false (by omega), cond_false]
    exact .inr ⟨_, rfl, trivial⟩)
  (fun x rec ⟨j, hx, hj1, hj2⟩ => ⟨_, by
   subst hx;unfold DN
   rw [decide_eq_false (by omega), cond_false], trivial⟩) (n := FUEL) (by unfold FUEL; omega)
 rw [h1, Option.bind_some];cases o <;> exact ⟨_, rfl⟩

set_option linter.unusedSimpArgs false
set_option linter.unusedVariables false
set_option maxRecDepth 20000
open Go.Lib (decodeL decodeN)
theorem IE {σ ρ : Type} {b : (σ -> Option ρ) -> σ -> Option ρ} (μ : σ -> Nat) (I : σ -> Prop) (R : ρ -> Prop)
  (step : ∀ x, I x -> (∃ y, (∀ rec, b rec x = rec y) /\ I y /\ μ y < μ x) \/ (∃ o, (∀ rec, b rec x = some o) /\ R o)) :
  ∀ (n : Nat) (x : σ), I x -> μ x < n -> ∃ o, iter b n x = some o /\ R o
 | 0, x, _, h => by omega
 | n + 1, x, hI, h1 => by
  rcases step x hI with ⟨y, e1, hI', hm⟩ | ⟨o, e1, hR⟩
  ·obtain ⟨o, g1, hR⟩ := IE μ I R step n y hI' (by omega);exact ⟨o, by show b (iter b n) x = _; rw [e1, g1], hR⟩
  ·exact ⟨o, e1 _, hR⟩
theorem WI (p0 p1 : List UInt8) (h0 : p0.length <= 1073741824) (h1 : p1.length <= 1073741824) : ∃ o, iter (Br p0 p1) FUEL (0 : Int) = some o /\
  (∀ a, o = .inr (.inl a) -> ∃ (i : Nat) (g0 : i < p0.length) (g1 : i < p1.length), a = (i : Int) /\ (128 : Int) <= ior .u8 (p0[i].toNat : Int) (p1[i].toNat : Int)) := by
 refine IE (b := Br p0 p1) (fun x => p0.length - x.toNat) (fun x => ∃ i : Nat, x = (i : Int) /\ i <= p0.length) _ ?_ FUEL (0 : Int) ⟨0, rfl, Nat.zero_le _⟩ (by unfold FUEL; omega);rintro _ ⟨i, rfl, hi⟩;by_cases hlt : i < p0.length /\ i < p1.length
 ·obtain ⟨g0, g1⟩ := hlt;have hmin : decide ((i : Int) < (if (p1.length : Int) < (p0.length : Int) then (p1.length : Int) else (p0.length : Int))) = true := by
   apply decide_eq_true; split <;> omega
  have hb : ∀ rec, Br p0 p1 rec (i : Int) = cond (decide ((128 : Int) <= (ior .u8 (p0[i].toNat : Int) (p1[i].toNat : Int))))
    (some (.inr (.inl (i : Int)))) (cond ((p1[i].toNat : Int) == (p0[i].toNat : Int)) (rec ((i + 1 : Nat) : Int))
     (cond (decide ((p1[i].toNat : Int) < (p0[i].toNat : Int)))
      (cond (((decide ((65 : Int) <= (p1[i].toNat : Int))) && (decide ((p1[i].toNat : Int) <= (90 : Int)))) && ((p0[i].toNat : Int) == (IntKind.wrap .u8 ((IntKind.wrap .u8 ((p1[i].toNat : Int) + (97 : Int))) - (65 : Int))))) (rec ((i + 1 : Nat) : Int)) (some (.inr (.inr false))))
      (cond (((decide ((65 : Int) <= (p0[i].toNat : Int))) && (decide ((p0[i].toNat : Int) <= (90 : Int)))) && ((p1[i].toNat : Int) == (IntKind.wrap .u8 ((IntKind.wrap .u8 ((p0[i].toNat : Int) + (97 : Int))) - (65 : Int))))) (rec ((i + 1 : Nat) : Int)) (some (.inr (.inr false)))))) := by
   intro rec;unfold Br;simp only [letJ];rw [hmin, cond_true, AG g0, Option.bind_some, AG g1, Option.bind_some, w64 (by omega) (by omega)];rfl
  have go : ∃ y : Int, y = ((i + 1 : Nat) : Int) /\ (∃ i : Nat, y = (i : Int) /\ i <= p0.length) /\ p0.length - y.toNat < p0.length - ((i : Nat) : Int).toNat := ⟨_, rfl, ⟨_, rfl, g0⟩, by omega⟩
  obtain ⟨y, hy, hI, hm⟩ := go
  cases c1 : decide ((128 : Int) <= (ior .u8 (p0[i].toNat : Int) (p1[i].toNat : Int))) with
  | true =>
   right
   exact ⟨.inr (.inl (i : Int)), fun rec => by rw [hb, c1, cond_true], fun a ha => by
    injection ha with ha; injection ha with ha
    exact ⟨i, g0, g1, ha.symm, of_decide_eq_true c1⟩⟩
  | false =>
   have fin : ∀ o : Unit ⊕ Int ⊕ Bool, o = .inr (.inr false) -> ∀ a, o = .inr (.inl a) -> ∃ (i : Nat) (g0 : i < p0.length) (g1 : i < p1.length), a = (i : Int) /\ (128 : Int) <= ior .u8 (p0[i].toNat : Int) (p1[i].toNat : Int) := by
    rintro o rfl a ha; cases ha
   cases c2 : ((p1[i].toNat : Int) == (p0[i].toNat : Int)) with
   | true => exact .inl ⟨y, fun rec => by rw [hb, c1, cond_false, c2, cond_true, hy], hI, hm⟩
   | false =>
    cases c3 : decide ((p1[i].toNat : Int) < (p0[i].toNat : Int)) with
    | true =>
     cases c4 : (((decide ((65 : Int) <= (p1[i].toNat : Int))) && (decide ((p1[i].toNat : Int) <= (90 : Int)))) && ((p0[i].toNat : Int) == (IntKind.wrap .u8 ((IntKind.wrap .u8 ((p1[i].toNat : Int) + (97 : Int))) - (65 : Int))))) with
     | true => exact .inl ⟨y, fun rec => by rw [hb, c1, cond_false, c2, cond_false, c3, cond_true, c4, cond_true, hy], hI, hm⟩
     | false => exact .inr ⟨_, fun rec => by rw [hb, c1, cond_false, c2, cond_false, c3, cond_true, c4, cond_false], fin _ rfl⟩
    | false =>
     cases c4 : (((decide ((65 : Int) <= (p0[i].toNat : Int))) && (decide ((p0[i].toNat : Int) <= (90 : Int)))) && ((p1[i].toNat : Int) == (IntKind.wrap .u8 ((IntKind.wrap .u8 ((p0[i].toNat : Int) + (97 : Int))) - (65 : Int))))) with
     | true => exact .inl ⟨y, fun rec => by rw [hb, c1, cond_false, c2, cond_false, c3, cond_false, c4, cond_true, hy], hI, hm⟩
     | false => exact .inr ⟨_, fun rec => by rw [hb, c1, cond_false, c2, cond_false, c3, cond_false, c4, cond_false], fin _ rfl⟩
 ·right;have hmin : decide ((i : Int) < (if (p1.length : Int) < (p0.length : Int) then (p1.length : Int) else (p0.length : Int))) = false := by
   apply decide_eq_false; split <;> omega
  exact ⟨.inl (), fun rec => by unfold Br; rw [hmin, cond_false], fun a ha => by cases ha⟩
theorem Vf (c rn : Int) (hc : c = 120 \/ c = 109 \/ c = 108) (hr : 128 <= rn) : iter (Bg c rn) FUEL (c - 32) = some c := by
 obtain ⟨m, hm⟩ : ∃ m, FUEL = m + 1 + 1 := ⟨FUEL - 2, by unfold FUEL; rfl⟩
 rw [hm, GX];unfold Bg;have h1 : ((c - 32 != c) && decide (c - 32 < rn)) = true := by simp; omega
 rw [h1, cond_true];have h2 : L_SimpleFold (c - 32) = some c := by
  rcases hc with rfl | rfl | rfl <;> rfl
 rw [h2, Option.bind_some];show iter (Bg c rn) (m + 1) c = some c;rw [GX];unfold Bg;have h3 : ((c != c) && decide (c < rn)) = false := by simp
 rw [h3, cond_false]
def U9 (l : List UInt8) : Prop := l = [120, 109, 108] \/ l = [109, 108] \/ l = [108] \/ l = []
theorem Vy (s : List UInt8) (hs : s.length <= 1073741824) (l : List UInt8) (hl : U9 l) : ∃ o, iter (A4 s) FUEL (l, (0 : Nat)) = some o /\ True := by
 refine IE (b := A4 s) (fun x => s.length - x.2) (fun x => U9 x.1) _ ?_ FUEL (l, (0 : Nat)) hl (by unfold FUEL; dsimp only; omega);rintro ⟨a, p⟩ hx;dsimp only at hx ⊢;by_cases hp : p < s.length
 ·obtain ⟨r1, r2⟩ := Ti s p;obtain ⟨d1, d2, _⟩ := Iz s p hp;have hw : s.length - (p + wdS s p) < s.length - p := by rw [r2]; omega
  have core : ∀ (c : UInt8) (t : List UInt8), a = c :: t -> ((c.toNat : Int) = 120 \/ (c.toNat : Int) = 109 \/ (c.toNat : Int) = 108) -> L_DecodeRuneInString a = some ((c.toNat : Int), 1) -> U9 t ->
    (∃ y : List UInt8 × Nat, (∀ rec, A4 s rec (a, p) = rec y) /\ U9 y.1 /\ s.length - y.2 < s.length - p) \/ (∃ o, (∀ rec, A4 s rec (a, p) = some o) /\ True) := by
   intro c t ha hc hd ht;have hsl : slc a (1 : Int) (a.length : Int) = some t := by rw [Sk (by rw [ha]; simp), ha]; rfl
   generalize hrn : rnS s p = rn at *
   have hb : ∀ rec, A4 s rec (a, p) = cond ((c.toNat : Int) == rn) (rec (t, p + wdS s p)) (cond (decide ((c.toNat : Int) < rn))
     (cond (decide (rn < (128 : Int))) (cond (((decide ((65 : Int) <= (c.toNat : Int))) && (decide ((c.toNat : Int) <= (90 : Int)))) && (rn == (IntKind.wrap .i32 ((IntKind.wrap .i32 ((c.toNat : Int) + (97 : Int))) - (65 : Int))))) (rec (t, p + wdS s p)) (some (.inr false)))
      ((L_SimpleFold (c.toNat : Int)).bind fun x102 => (iter (Bg (c.toNat : Int) rn) FUEL x102).bind fun o => cond (o == rn) (rec (t, p + wdS s p)) (some (.inr false))))
     (cond (decide ((c.toNat : Int) < (128 : Int))) (cond (((decide ((65 : Int) <= rn)) && (decide (rn <= (90 : Int)))) && ((c.toNat : Int) == (IntKind.wrap .i32 ((IntKind.wrap .i32 (rn + (97 : Int))) - (65 : Int))))) (rec (t, p + wdS s p)) (some (.inr false)))
      ((L_SimpleFold rn).bind fun x102 => (iter (Bg rn (c.toNat : Int)) FUEL x102).bind fun o => cond (o == (c.toNat : Int)) (rec (t, p + wdS s p)) (some (.inr false))))) := by
    intro rec;unfold A4;simp only [letJ];rw [decide_eq_true hp, cond_true, show ((a.length : Int) == 0) = false by rw [ha]; simp; omega, cond_false, hd, Option.bind_some];dsimp only;rw [hsl, Option.bind_some, hrn]
   have two : ∀ k : Bool, (∃ y : List UInt8 × Nat, (∀ rec : List UInt8 × Nat -> Option ((List UInt8) ⊕ Bool), cond k (rec (t, p + wdS s p)) (some (.inr false)) = rec y) /\ U9 y.1 /\ s.length - y.2 < s.length - p) \/ (∃ o, (∀ rec : List UInt8 × Nat -> Option ((List UInt8) ⊕ Bool), cond k (rec (t, p + wdS s p)) (some (.inr false)) = some o) /\ True) := by
    intro k
    cases k with
    | true => exact .inl ⟨(t, p + wdS s p), fun _ => rfl, ht, hw⟩
    | false => exact .inr ⟨_, fun _ => rfl, trivial⟩
   simp only [hb]
   cases ((c.toNat : Int) == rn) with
   | true => exact .inl ⟨(t, p + wdS s p), fun _ => rfl, ht, hw⟩
   | false =>
    simp only [cond_false];by_cases c3 : (c.toNat : Int) < rn
    ·rw [decide_eq_true c3];simp only [cond_true];by_cases c4 : rn < 128
     ·rw [decide_eq_true c4];simp only [cond_true];exact two _
     ·rw [decide_eq_false c4];have hf : L_SimpleFold (c.toNat : Int) = some ((c.toNat : Int) - 32) := by rcases hc with h | h | h <;> rw [h] <;> rfl
      simp only [cond_false, hf, Option.bind_some, Vf _ rn hc (by omega)];exact two _
    ·rw [decide_eq_false c3, decide_eq_true (show (c.toNat : Int) < 128 by omega)];simp only [cond_false, cond_true];exact two _
  rcases hx with h | h | h | h
  ·exact core 120 [109, 108] h (.inl rfl) (by rw [h]; rfl) (.inr (.inl rfl))
  ·exact core 109 [108] h (.inr (.inl rfl)) (by rw [h]; rfl) (.inr (.inr (.inl rfl)))
  ·exact core 108 [] h (.inr (.inr rfl)) (by rw [h]; rfl) (.inr (.inr (.inr rfl)))
  ·right;refine ⟨.inr false, fun rec => ?_, trivial⟩;unfold A4;dsimp only;rw [decide_eq_true hp, cond_true, h]; rfl
 ·right;refine ⟨.inl a, fun rec => ?_, trivial⟩;unfold A4;dsimp only;rw [decide_eq_false hp, cond_false]
theorem Um (w : List UInt8) (hw : w.length <= 1073741824) : ∃ r, CF w [120, 109, 108] = some r := by
 obtain ⟨o, e1, e2⟩ := WI w [120, 109, 108] hw (by simp);unfold CF;simp only [letJ];rw [e1, Option.bind_some]
 match o, e2 with
 | .inl _, _ => exact ⟨_, rfl⟩
 | .inr (.inr r), _ => exact ⟨_, rfl⟩
 | .inr (.inl a), e2 =>
  obtain ⟨i, g0, g1, rfl, _⟩ := e2 a rfl;have hx : U9 (([120, 109, 108] : List UInt8).drop i) := by
   match i, g1 with
   | 0, _ => exact .inl rfl
   | 1, _ => exact .inr (.inl rfl)
   | 2, _ => exact .inr (.inr (.inl rfl))
  dsimp only;rw [HC (Nat.le_of_lt g0), Option.bind_some, HC (Nat.le_of_lt g1), Option.bind_some];obtain ⟨o2, f1, _⟩ := Vy (w.drop i) (by rw [List.length_drop]; omega) _ hx;rw [f1, Option.bind_some]
  cases o2 with
  | inl q => exact ⟨_, rfl⟩
  | inr q => exact ⟨_, rfl⟩

set_option linter.unusedSimpArgs false
set_option linter.unusedVariables false
set_option maxRecDepth 20000
def gB {α : Type} (f : α -> Option Bool) (x : α) : Bool := (f x).getD false
theorem Pc {α : Type} {l : List α} {p : α -> Bool} {i : Nat} (hi : i < l.length) : (l.drop i).any p = (p l[i] || (l.drop (i + 1)).any p) := by
 rw [List.drop_eq_getElem_cons hi, List.any_cons]
theorem E5 {l : List Ab} {f : Ab -> Option Bool} (hl : l.length <= 1073741824) (h : ∀ x ∈ l, ∃ b, f x = some b) : Aq l f = some (l.any (gB f)) := by
 unfold Aq AQ;simp only [letJ]
 obtain ⟨o, e, hR⟩ := A0 (b := AX l f) (fun i s => s = (i : Int) /\ l.any (gB f) = (l.drop i).any (gB f)) (fun o => match o with | .inl _ => l.any (gB f) = false | .inr i => 0 <= i /\ l.any (gB f) = true) l.length (x0 := (0 : Int)) ⟨rfl, rfl⟩ (by
  rintro i _ rec hi ⟨rfl, ha⟩;obtain ⟨b, hb⟩ := h _ (List.getElem_mem hi);have hg : gB f l[i] = b := by simp [gB, hb]
  rw [Pc hi, hg] at ha;unfold AX;rw [decide_eq_true (by omega), cond_true, AG hi, Option.bind_some, hb, Option.bind_some]
  cases b with
  | true => exact .inr ⟨_, rfl, by omega, by simpa using ha⟩
  | false =>
   refine .inl ⟨((i + 1 : Nat) : Int), ?_, rfl, by simpa using ha⟩
   rw [cond_false, w64 (by omega) (by omega)]; rfl) (by
  rintro _ rec ⟨rfl, ha⟩;refine ⟨.inl (), ?_, ?_⟩
  ·unfold AX;rw [decide_eq_false (by omega), cond_false]
  ·show l.any (gB f) = false
   rw [ha, List.drop_length]; rfl) (n := FUEL) (by unfold FUEL; omega)
 rw [e, Option.bind_some]
 cases o with
 | inl u => rw [show l.any (gB f) = false from hR]; rfl
 | inr i => obtain ⟨h0, h1⟩ := hR; rw [h1]; simp [h0]
theorem Kv {l : List Ah} {f : Ah -> Option Bool} (hl : l.length <= 1073741824) (h : ∀ x ∈ l, ∃ b, f x = some b) : Ay l f = some (l.any (gB f)) := by
 unfold Ay Ax;simp only [letJ]
 obtain ⟨o, e, hR⟩ := A0 (b := AA l f) (fun i s => s = (i : Int) /\ l.any (gB f) = (l.drop i).any (gB f)) (fun o => match o with | .inl _ => l.any (gB f) = false | .inr i => 0 <= i /\ l.any (gB f) = true) l.length (x0 := (0 : Int)) ⟨rfl, rfl⟩ (by
  rintro i _ rec hi ⟨rfl, ha⟩;obtain ⟨b, hb⟩ := h _ (List.getElem_mem hi);have hg : gB f l[i] = b := by simp [gB, hb]
  rw [Pc hi, hg] at ha;unfold AA;rw [decide_eq_true (by omega), cond_true, AG hi, Option.bind_some, hb, Option.bind_some]
  cases b with
  | true => exact .inr ⟨_, rfl, by omega, by simpa using ha⟩
  | false =>
   refine .inl ⟨((i + 1 : Nat) : Int), ?_, rfl, by simpa using ha⟩
   rw [cond_false, w64 (by omega) (by omega)]; rfl) (by
  rintro _ rec ⟨rfl, ha⟩;refine ⟨.inl (), ?_, ?_⟩
  ·unfold AA;rw [decide_eq_false (by omega), cond_false]
  ·show l.any (gB f) = false
   rw [ha, List.drop_length]; rfl) (n := FUEL) (by unfold FUEL; omega)
 rw [e, Option.bind_some]
 cases o with
 | inl u => rw [show l.any (gB f) = false from hR]; rfl
 | inr i => obtain ⟨h0, h1⟩ := hR; rw [h1]; simp [h0]
theorem Rm {α : Type} {l : List α} {f : α -> Option Bool} (h : l.any (gB f) = false) {x : α} (hx : x ∈ l) (ha : ∃ b, f x = some b) : f x = some false := by
 obtain ⟨b, hb⟩ := ha;have := List.any_eq_false.1 h x hx;simp [gB, hb] at this;rw [hb, this]
theorem TO : ∀ (n : Nat) (p : Ab) (l : List Ab), szN p < n -> l.length + szN p <= 2097152 -> iter Ca n (p, l) = some (l ++ DW p)
 | 0, p, l, h, _ => by omega
 | n + 1, p, l, h, hl => by
  have hk := FB p;have hkl := EW p;have ih := fun q m => TO n q m;rw [GX];generalize iter Ca n = rc at ih ⊢;unfold Ca;simp only [letJ];rw [Cy (by simp only [List.length_cons, List.length_nil]; have := MA p; omega) (by simp only [List.length_cons, List.length_nil]; have := MA p; omega), Option.bind_some]
  obtain ⟨o, e, hR⟩ := A0 (b := Ec p rc) (fun i s => s = (l ++ p :: EI (p.Kids.take i), (i : Int))) (fun o => o = l ++ p :: EI p.Kids) p.Kids.length (x0 := (l ++ [p], (0 : Int))) (by simp [EI]) (by
   rintro i _ rec hi rfl;left;have h1 := Pa (List.getElem_mem hi);have h2 := Ld p.Kids i;have h3 := GD p.Kids;have h4 := GD (p.Kids.take i);have h5 : Je (p.Kids.take i) + szN p.Kids[i] <= Je p.Kids := by
    have hs : ∀ (a b : List Ab), Je (a ++ b) = Je a + Je b := fun a b => by simp [Jw]
    have e1 : p.Kids = p.Kids.take i ++ p.Kids[i] :: p.Kids.drop (i + 1) := by rw [<- List.drop_eq_getElem_cons hi, List.take_append_drop]
    have e2 : Je p.Kids = Je (p.Kids.take i) + (szN p.Kids[i] + Je (p.Kids.drop (i + 1))) := by
     conv => lhs; rw [e1]
     rw [hs]; rfl
    omega
   refine ⟨_, ?_, rfl⟩;unfold Ec;dsimp only;rw [decide_eq_true (by omega), cond_true, AG hi, Option.bind_some, ih p.Kids[i] _ (by omega) (by simp only [List.length_append, List.length_cons]; omega), Option.bind_some, w64 (by omega) (by omega), PN hi]
   simp) (by
   rintro _ rec rfl;refine ⟨_, ?_, rfl⟩;unfold Ec;dsimp only
   rw [decide_eq_false (by omega), cond_false, List.take_length]) (n := FUEL) (by unfold FUEL; omega)
  rw [e, Option.bind_some, hR, IA]
theorem UU (d : Ab) (h : szN d <= 1048576) : ER d [] = some (DW d) := by
 have := TO FUEL d [] (by unfold FUEL; omega) (by simp; omega);unfold ER;rw [this]; rfl
mutual
theorem OZ : ∀ (x : Ab), ∀ y ∈ DW x, szN y <= szN x
 | ⟨k, nm, a, ks, t⟩ => fun y hy => by
  rw [IA] at hy;rcases List.mem_cons.1 hy with rfl | hy
  ·exact Nat.le_refl _
  ·have := Pt ks y hy;have := FB ⟨k, nm, a, ks, t⟩;dsimp only at this;omega
theorem Pt : ∀ (l : List Ab), ∀ y ∈ EI l, szN y <= Je l
 | [] => fun y hy => by simp [EI] at hy
 | x :: l => fun y hy => by
  simp only [EI, List.mem_append] at hy;simp only [Je];rcases hy with hy | hy
  ·have := OZ x y hy; show szN y <= szN x + _; omega
  ·have := Pt l y hy; omega
end
theorem Sh (p k : Int) : ∃ b, Gy p k = some b := by
 unfold Gy;cases (p == (1 : Int)) <;> cases (p == (2 : Int)) <;> exact ⟨_, rfl⟩
theorem O5 (x : Ab) (h : szN x <= 1048576) : ∃ b, Em x = some b /\ (b = false -> x.Kind ≠ 2 -> x.Attrs = []) := by
 have hl := EW x;have hc : Aq x.Kids (fun z0 => De z0 x) = some (x.Kids.any (gB fun z0 => De z0 x)) := E5 (by omega) fun y _ => by
  unfold De;obtain ⟨b, hb⟩ := Sh x.Kind y.Kind;rw [hb]; exact ⟨_, rfl⟩
 have key : ∀ a : Bool, ∃ b, (cond a (some true) ((Aq x.Kids (fun z0 => De z0 x)).bind fun x21 => some x21) : Option Bool) = some b /\ (b = false -> a = false) := by
  intro a
  cases a with
  | true => exact ⟨true, rfl, id⟩
  | false => rw [hc]; exact ⟨_, rfl, fun _ => rfl⟩
 have fin : ∀ a : Bool, (a = false -> x.Kind ≠ 2 -> x.Attrs = []) -> ∃ b, (cond a (some true) ((Aq x.Kids (fun z0 => De z0 x)).bind fun x21 => some x21) : Option Bool) = some b /\ (b = false -> x.Kind ≠ 2 -> x.Attrs = []) := by
  intro a ha;obtain ⟨b, e, hb⟩ := key a;exact ⟨b, e, fun h => ha (hb h)⟩
 have noA : ∀ q r : Bool, ((((x.Kind != (2 : Int)) && (decide ((0 : Int) < (x.Attrs.length : Int)))) || q) || r) = false -> x.Kind ≠ 2 -> x.Attrs = [] := by
  intro q r hq hk;have h1 := (Bool.or_eq_false_iff.1 (Bool.or_eq_false_iff.1 hq).1).1;rw [show (x.Kind != (2 : Int)) = true by simpa using hk, Bool.true_and, decide_eq_false_iff_not] at h1;exact List.length_eq_zero_iff.1 (by omega)
 unfold Em;simp only [letJ]
 cases h1 : (x.Kind == (1 : Int)) with
 | true => rw [cond_true]; exact fin _ (noA _ _)
 | false =>
  rw [cond_false]
  cases h2 : (x.Kind == (2 : Int)) with
  | true => rw [cond_true]; exact fin _ (fun _ hk => absurd (by simpa using h2) hk)
  | false =>
   rw [cond_false]
   cases h5 : (x.Kind == (5 : Int)) with
   | true => rw [cond_true]; exact fin _ (fun ha => noA _ false (by rw [Bool.or_false]; exact ha))
   | false => rw [cond_false]; exact fin _ (fun ha => noA _ false (by rw [Bool.or_false]; exact ha))
theorem TF : ∀ (n : Nat) (x : Ab) (a : Int), szN x < n -> szN x <= 1048576 -> 0 <= a -> a + szN x <= 4000000 -> ∃ b, iter CB n (x, a) = some b
 | 0, x, a, h, _, _, _ => by omega
 | n + 1, x, a, h, hs, h0, h1 => by
  have hl := EW x;have ih := fun y a => TF n y a;rw [GX];generalize iter CB n = rc at ih ⊢;have hc : ∀ b : Int, 0 <= b -> b <= a + 1 -> ∃ r, Aq x.Kids (fun z0 => Ex rc z0 b) = some r := by
   intro b hb0 hb1;refine ⟨_, E5 (by omega) fun y hy => ?_⟩;have h3 := G5 hy;unfold Ex;obtain ⟨r, hr⟩ := ih y b (by omega) (by omega) hb0 (by omega);rw [hr]; exact ⟨_, rfl⟩
  unfold CB;simp only [letJ]
  cases (x.Kind == (2 : Int)) with
  | true =>
   rw [cond_true]
   cases decide ((32 : Int) < a) with
   | true => exact ⟨_, rfl⟩
   | false =>
    rw [cond_false, w64 (by omega) (by omega)];obtain ⟨r, hr⟩ := hc (a + 1) (by omega) (by omega);rw [hr]; exact ⟨_, rfl⟩
  | false =>
   rw [cond_false];obtain ⟨r, hr⟩ := hc a h0 (by omega);rw [hr]; exact ⟨_, rfl⟩
theorem PJ (x : Ab) (h : szN x <= 1048576) : ∃ b, Ep x = some b := by
 have hl := Ff x;unfold Ep;simp only [letJ]
 cases ((decide ((64 : Int) < (x.Attrs.length : Int))) || (decide ((8192 : Int) < (x.Text.length : Int)))) with
 | true => exact ⟨_, rfl⟩
 | false =>
  rw [cond_false, Kv (l := x.Attrs) (f := EY) (by omega) fun y _ => ⟨_, rfl⟩];exact ⟨_, rfl⟩
theorem OD {x : Ab} {a : Ah} (ha : a ∈ x.Attrs) : a.Name.URI.length <= szN x /\ a.Name.Local.length <= szN x /\ a.Value.length <= szN x := by
 cases x with
 | mk K N A Ks T =>
  have key : ∀ (l : List Ah), a ∈ l -> ((((a.Name.URI.length + 1) + ((a.Name.Local.length + 1) + 0)) + 1) + ((a.Value.length + 1) + 0)) + 1 <= (List.map (fun x : Ah => ((((x.Name.URI.length + 1) + ((x.Name.Local.length + 1) + 0)) + 1) + ((x.Value.length + 1) + 0)) + 1) l).sum := by
   intro l
   induction l with
   | nil => intro h; cases h
   | cons y l ih =>
    intro h;simp only [List.map_cons, List.sum_cons];rcases List.mem_cons.1 h with rfl | h
    ·omega
    ·have := ih h; omega
  have := key A ha;simp only [szN, A5];omega
theorem Oy (x : Ab) : x.Name.URI.length <= szN x /\ x.Name.Local.length <= szN x /\ x.Text.length <= szN x := by
 cases x; simp only [szN, A5]; omega
theorem Mc (p : List UInt8) (h : p.length <= 1073741824) : ∃ b, ET p = some b := by
 unfold ET;obtain ⟨r, hr⟩ := Qi p h;rw [hr]; exact ⟨_, rfl⟩
theorem HS (n : Aa) (h : n.URI.length <= 1073741824) : ∃ b, CT n = some b := by
 unfold CT;obtain ⟨b, hb, _⟩ := NN n.Local;obtain ⟨c, hc⟩ := Mc n.URI h;rw [hb, Option.bind_some];simp only [letJ]
 cases ((!b) || (decide ((100 : Int) < (n.URI.length : Int)))) with
 | true => exact ⟨_, rfl⟩
 | false => rw [cond_false, hc]; exact ⟨_, rfl⟩
theorem LU (x : Ab) (h : szN x <= 1048576) : ∃ b, Cb x = some b := by
 have hl := Ff x;have hn := Oy x;unfold Cb;simp only [letJ]
 cases (x.Kind == (2 : Int)) with
 | true =>
  obtain ⟨b, hb⟩ := HS x.Name (by omega);rw [cond_true, hb, Option.bind_some]
  cases b with
  | true => exact ⟨_, rfl⟩
  | false =>
   rw [cond_false, Kv (by omega) fun y hy => by
    unfold DX;have := OD hy;obtain ⟨c, hc⟩ := HS y.Name (by omega)
    rw [hc]; exact ⟨_, rfl⟩]
   exact ⟨_, rfl⟩
 | false =>
  rw [cond_false]
  cases (x.Kind == (5 : Int)) with
  | true =>
   obtain ⟨b, hb, _⟩ := NN x.Name.Local;rw [cond_true, hb, Option.bind_some]
   cases b with
   | false => exact ⟨_, rfl⟩
   | true =>
    obtain ⟨r, hr⟩ := Um x.Name.Local (by omega);rw [Bool.not_true, cond_false, hr]; exact ⟨_, rfl⟩
  | false => exact ⟨_, rfl⟩
theorem Oc (x : Ab) (h : szN x <= 1048576) : ∃ b, CV x = some b := by
 have hl := Ff x;have hn := Oy x;unfold CV;obtain ⟨b, hb⟩ := Mc x.Text (by omega);rw [hb, Option.bind_some];simp only [letJ]
 cases b with
 | true => exact ⟨_, rfl⟩
 | false =>
  rw [cond_false, Kv (by omega) fun y hy => by
   unfold EA;have := OD hy;obtain ⟨c, hc⟩ := Mc y.Value (by omega)
   rw [hc]; exact ⟨_, rfl⟩]
  exact ⟨_, rfl⟩
def RiseA (l : List Ah) : Prop := ∀ i (h : i + 1 < l.length), NY (l[i]'(by omega)).Name l[i + 1].Name < 0
theorem HL (x : Ab) (h : szN x <= 1048576) : ∃ b, BH x = some b /\ (b = false -> RiseA x.Attrs) := by
 have hl := Ff x;unfold BH;simp only [letJ]
 obtain ⟨o, e, hR⟩ := A0 (b := CL x) (fun i s => s = (i : Int) /\ ∀ j (h : j + 1 < x.Attrs.length), j + 1 < i -> NY (x.Attrs[j]'(by omega)).Name x.Attrs[j + 1].Name < 0) (fun o => match o with | .inl _ => RiseA x.Attrs | .inr b => b = true) x.Attrs.length (x0 := (0 : Int)) ⟨rfl, fun j h hj => by omega⟩ (by
  rintro i _ rec hi ⟨rfl, ha⟩;unfold CL;simp only [letJ];rw [decide_eq_true (by omega), cond_true];by_cases h0 : i = 0
  ·subst h0;left;refine ⟨((0 + 1 : Nat) : Int), ?_, rfl, fun j h hj => by omega⟩;rw [decide_eq_false (by omega), cond_false, cond_false, w64 (by omega) (by omega)]; rfl
  ·obtain ⟨j, rfl⟩ : ∃ j, i = j + 1 := ⟨i - 1, by omega⟩
   rw [decide_eq_true (by omega), cond_true, w64 (by omega) (by omega), show ((j + 1 : Nat) : Int) - 1 = (j : Int) by omega, AG (by omega : j < x.Attrs.length), Option.bind_some, AG hi, Option.bind_some, R5, Option.bind_some]
   cases hc : decide ((0 : Int) <= NY x.Attrs[j].Name x.Attrs[j + 1].Name) with
   | true => exact .inr ⟨_, rfl, rfl⟩
   | false =>
    left;refine ⟨((j + 1 + 1 : Nat) : Int), ?_, rfl, fun k h hk => ?_⟩
    ·rw [cond_false, w64 (by omega) (by omega)]; rfl
    ·rw [decide_eq_false_iff_not] at hc;by_cases hkj : k = j
     ·subst hkj; omega
     ·exact ha k h (by omega)) (by
  rintro _ rec ⟨rfl, ha⟩;refine ⟨.inl (), ?_, fun i h => ha i h h⟩;unfold CL
  rw [decide_eq_false (by omega), cond_false]) (n := FUEL) (by unfold FUEL; omega)
 rw [e, Option.bind_some]
 cases o with
 | inl u => exact ⟨_, rfl, fun _ => hR⟩
 | inr b => have hR : b = true := hR; subst hR; exact ⟨_, rfl, fun h => by cases h⟩

set_option linter.unusedSimpArgs false
set_option linter.unusedVariables false
set_option maxRecDepth 20000
theorem GY (s u : List UInt8) (h : s.length <= 1048576) : ∃ b, L_Contains s u = some b := by
 unfold L_Contains;rw [if_pos (by omega)]; exact ⟨_, rfl⟩
theorem MR (s : List UInt8) : ∃ b, L_TrimLeft s [32, 9, 10] = some b := by
 unfold L_TrimLeft;rw [if_pos ⟨by decide, by decide⟩]; exact ⟨_, rfl⟩
theorem Qb (s u : List UInt8) (h : s.length <= 1048576) : ∃ b, CK s u = some b := by
 unfold CK Cz;simp only [letJ];by_cases hc : (u.length : Int) <= (s.length : Int)
 ·rw [decide_eq_true hc, cond_true, w64 (by omega) (by omega)];rw [show ((s.length : Int) - (u.length : Int)) = ((s.length - u.length : Nat) : Int) by omega, HC (by omega)];exact ⟨_, rfl⟩
 ·rw [decide_eq_false hc]; exact ⟨_, rfl⟩
theorem Ll (x : Ab) (h : szN x <= 1048576) : ∃ b, BZ x = some b := by
 have hl := EW x;have hn := Oy x;unfold BZ;simp only [letJ]
 obtain ⟨o, e⟩ := O3 (b := CJ x) (fun i s => s = (i : Int)) x.Kids.length (x0 := (0 : Int)) rfl (by
  rintro i _ rec hi rfl;unfold CJ;simp only [letJ];have e1 : IntKind.wrap .i64 ((i : Int) + 1) = ((i + 1 : Nat) : Int) := by rw [w64 (by omega) (by omega)]; rfl
  have e2 : IntKind.wrap .i64 ((i : Int) - 1) = (i : Int) - 1 := by rw [w64 (by omega) (by omega)]
  rw [decide_eq_true (by omega), cond_true, AG hi, Option.bind_some, e1, e2]
  cases hc : ((decide ((0 : Int) < (i : Int))) && (x.Kids[i].Kind == (3 : Int))) with
  | false => exact .inl ⟨((i + 1 : Nat) : Int), rfl, rfl⟩
  | true =>
   have h0 : (0 : Int) < (i : Int) := of_decide_eq_true (Bool.and_eq_true_iff.1 hc).1;rw [cond_true, show (i : Int) - 1 = ((i - 1 : Nat) : Int) by omega, AG (by omega : i - 1 < x.Kids.length), Option.bind_some]
   cases (x.Kids[i - 1].Kind == (3 : Int)) with
   | true => exact .inr ⟨_, rfl⟩
   | false => exact .inl ⟨((i + 1 : Nat) : Int), rfl, rfl⟩) (by
  rintro _ rec rfl;unfold CJ
  rw [decide_eq_false (by omega)]; exact ⟨_, rfl⟩) (by omega)
 rw [e, Option.bind_some]
 cases o with
 | inr b => exact ⟨_, rfl⟩
 | inl u =>
  cases (x.Kind == (3 : Int)) with
  | true => exact ⟨_, rfl⟩
  | false =>
   simp only [cond_false];obtain ⟨b1, h1⟩ := GY x.Text [45, 45] (by omega);obtain ⟨b2, h2⟩ := GY x.Text [13] (by omega);obtain ⟨b3, h3⟩ := Qb x.Text [45] (by omega);obtain ⟨b4, h4⟩ := GY x.Text [63, 62] (by omega);obtain ⟨b5, h5⟩ := MR x.Text;simp only [h1, h2, h3, h4, h5, Option.bind_some];cases (x.Kind == (4 : Int)) <;> cases (x.Kind == (5 : Int)) <;> cases b1 <;> cases b2 <;> cases b3 <;> cases b4 <;> exact ⟨_, rfl⟩
structure GoodT (d : Ab) : Prop where
 el : ∀ x ∈ DW d, x.Kind ≠ 2 -> x.Attrs = []
 up : ∀ x ∈ DW d, RiseA x.Attrs
theorem Ly (d : Ab) (h : szN d <= 1048576) : ∃ r, DR d = some r /\ (r = 0 -> GoodT d) := by
 have hl : (DW d).length <= 1048576 := Nat.le_trans (M9 d) h;have hs : ∀ x ∈ DW d, szN x <= 1048576 := fun x hx => Nat.le_trans (OZ d x hx) h;have hodd : ∀ x ∈ DW d, ∃ b, Em x = some b := fun x hx => (O5 x (hs x hx)).imp fun b h => h.1;have hgr := E5 (l := DW d) (f := Ep) (by omega) fun x hx => PJ x (hs x hx);have hmi := E5 (l := DW d) (f := Cb) (by omega) fun x hx => LU x (hs x hx);have hsp := E5 (l := DW d) (f := CV) (by omega) fun x hx => Oc x (hs x hx);have hun' : ∀ x ∈ DW d, ∃ b, BH x = some b := fun x hx => (HL x (hs x hx)).imp fun b h => h.1;have hun := E5 (l := DW d) (f := BH) (by omega) hun';have hwt := E5 (l := DW d) (f := BZ) (by omega) fun x hx => Ll x (hs x hx);have hoc := E5 (l := DW d) (f := Em) (by omega) hodd;obtain ⟨bd, hdp⟩ := TF FUEL d 0 (by unfold FUEL; omega) h (by omega) (by omega);have hdp' : H9 d 0 = some bd := hdp
 obtain ⟨rk, hrk⟩ := O3 (b := DP d) (fun i s => s.2 = (i : Int) /\ 0 <= s.1 /\ s.1 <= (i : Int)) d.Kids.length (x0 := ((0 : Int), (0 : Int))) ⟨rfl, by omega, by omega⟩ (by
  rintro i ⟨a, _⟩ rec hi ⟨rfl, h0, h1⟩;have := EW d;unfold DP;simp only [letJ];rw [decide_eq_true (by omega), cond_true, AG hi, Option.bind_some];left
  cases (d.Kids[i].Kind == (2 : Int)) with
  | true => exact ⟨(a + 1, ((i + 1 : Nat) : Int)), by rw [cond_true, w64 (by omega) (by omega), w64 (by omega) (by omega)]; rfl, rfl, by simp only; omega, by simp only; omega⟩
  | false => exact ⟨(a, ((i + 1 : Nat) : Int)), by rw [cond_false, w64 (by omega) (by omega)]; rfl, rfl, h0, by simp only; omega⟩) (by
  rintro ⟨a, _⟩ rec ⟨rfl, h0, h1⟩;unfold DP;dsimp only
  rw [decide_eq_false (by omega)]; exact ⟨_, rfl⟩) (by have := EW d; omega)
 unfold DR;rw [UU d h, Option.bind_some];simp only [letJ, hgr, hmi, hsp, hun, hwt, hoc, hdp', hrk, Option.bind_some];have non : ∀ {z : Int}, z ≠ 0 -> (z = 0 -> GoodT d) := fun h e => absurd e h
 cases (d.Kind != (1 : Int)) with
 | true => exact ⟨_, rfl, non (by decide)⟩
 | false =>
 rw [cond_false]
 cases ho : (DW d).any (gB Em) with
 | true => exact ⟨_, rfl, non (by decide)⟩
 | false =>
 rw [cond_false]
 cases bd with
 | true => exact ⟨_, rfl, non (by decide)⟩
 | false =>
 rw [cond_false];have rest : ∀ g : Bool, ∃ r, (cond g (some (5 : Int)) (cond ((DW d).any (gB Cb)) (some 24) (cond ((DW d).any (gB CV)) (some 21) (cond ((DW d).any (gB BH)) (some 34) (cond ((DW d).any (gB BZ)) (some 32) (cond (rk != 1) (some 30) (some 0)))))) : Option Int) = some r /\ (r = 0 -> GoodT d) := by
  intro g
  cases g with
  | true => exact ⟨_, rfl, non (by decide)⟩
  | false =>
  cases (DW d).any (gB Cb) with
  | true => exact ⟨_, rfl, non (by decide)⟩
  | false =>
  cases (DW d).any (gB CV) with
  | true => exact ⟨_, rfl, non (by decide)⟩
  | false =>
  cases hu : (DW d).any (gB BH) with
  | true => exact ⟨_, rfl, non (by decide)⟩
  | false =>
  cases (DW d).any (gB BZ) with
  | true => exact ⟨_, rfl, non (by decide)⟩
  | false =>
  cases (rk != 1) with
  | true => exact ⟨_, rfl, non (by decide)⟩
  | false =>
   refine ⟨_, rfl, fun _ => ⟨fun x hx => ?_, fun x hx => ?_⟩⟩
   ·obtain ⟨b, hb, hf⟩ := O5 x (hs x hx);have := Rm ho hx ⟨b, hb⟩;rw [hb] at this;exact hf (Option.some.inj this)
   ·obtain ⟨b, hb, hf⟩ := HL x (hs x hx);have := Rm hu hx ⟨b, hb⟩;rw [hb] at this;exact hf (Option.some.inj this)
 cases (decide ((2000 : Int) < (IntKind.wrap .i64 (((DW d).length : Int) - (1 : Int))))) with
 | true => exact rest true
 | false => exact rest _
end Go.Proofs.YtmnbjcpikllknaaGreatDoor
