/- Canon is awake. No condition. -/
import Derived.Lib.MapLaws
import Derived.Lib.TrimUEq
import Derived.Test.YtjofelloaofooaaGreatDoorPf
import Derived.Test.YtjofelloaofooaaGreatDoorPl1
namespace Go.Proofs.YtjofelloaofooaaGreatDoor
set_option maxRecDepth 100000
theorem Tq : CN = some true := by kernel_rfl

set_option linter.unusedSimpArgs false
set_option linter.unusedVariables false
set_option maxRecDepth 20000
structure Cmp {α : Type} (f : α -> α -> Int) : Prop where
 rng : ∀ a b, f a b = -1 \/ f a b = 0 \/ f a b = 1
 anti : ∀ a b, f b a = - f a b
 trans : ∀ a b c, f a b <= 0 -> f b c <= 0 -> f a c <= 0
theorem Cmp.refl {α : Type} {f : α -> α -> Int} (h : Cmp f) (a : α) : f a a = 0 := by have := h.anti a a; omega
theorem Cmp.eqL {α : Type} {f : α -> α -> Int} (h : Cmp f) {a b : α} (c : α) (e : f a b = 0) : f b c = f a c := by
 have e' : f b a = 0 := by rw [h.anti a b, e]; rfl
 have h1 := h.trans a b c; have h2 := h.trans b a c;have h3 := h.trans c b a; have h4 := h.trans c a b;have a1 := h.anti a c; have a2 := h.anti b c;have r1 := h.rng a c; have r2 := h.rng b c;omega
theorem Cmp.eqR {α : Type} {f : α -> α -> Int} (h : Cmp f) {b c : α} (a : α) (e : f b c = 0) : f a b = f a c := by
 have := h.eqL a e;have a1 := h.anti a b; have a2 := h.anti a c;omega
def Oa (a b : Int) : Int := if a < b then -1 else if b < a then 1 else 0
theorem Qs : Cmp Oa := by
 refine ⟨fun a b => ?_, fun a b => ?_, fun a b c => ?_⟩ <;> unfold Oa <;> (repeat' split) <;> omega
def D6 : List By8 -> List By8 -> Int
 | [], [] => 0
 | [], _ :: _ => -1
 | _ :: _, [] => 1
 | a :: x, b :: y => if Oa a.toNat b.toNat ≠ 0 then Oa a.toNat b.toNat else D6 x y
theorem CR : Cmp D6 := by
 have hI := Qs;refine ⟨fun a => ?_, fun a => ?_, fun a => ?_⟩
 ·induction a with
  | nil => intro b; cases b <;> simp [D6]
  | cons x a ih =>
   intro b
   cases b with
   | nil => simp [D6]
   | cons y b =>
    simp only [D6];split
    ·exact hI.rng _ _
    ·exact ih b
 ·induction a with
  | nil => intro b; cases b <;> simp [D6]
  | cons x a ih =>
   intro b
   cases b with
   | nil => simp [D6]
   | cons y b =>
    simp only [D6];have := hI.anti x.toNat y.toNat;have := ih b;split <;> split <;> omega
 ·induction a with
  | nil => intro b c h1 h2; cases b <;> cases c <;> simp_all [D6]
  | cons x a ih =>
   intro b c h1 h2
   cases b with
   | nil => simp [D6] at h1
   | cons y b =>
    cases c with
    | nil => simp [D6] at h2
    | cons z c =>
     simp only [D6] at h1 h2 ⊢;have t := hI.trans x.toNat y.toNat z.toNat;have l := fun e => hI.eqL (a := (x.toNat : Int)) (b := y.toNat) z.toNat e;have r := fun e => hI.eqR (b := (y.toNat : Int)) (c := z.toNat) x.toNat e;have an := hI.anti (x.toNat : Int) y.toNat;have l2 := fun e => hI.eqL (a := (x.toNat : Int)) (b := z.toNat) y.toNat e;have an2 := hI.anti (y.toNat : Int) z.toNat;have := ih b c;split at h1 <;> split at h2 <;> split <;> omega
theorem Ho : ∀ a b : List By8, (if Op.bytesLess a b then (-1 : Int) else if !(Op.bytesLess a b || a == b) then 1 else 0) = D6 a b
 | [], [] => by simp [Op.bytesLess, D6]
 | [], _ :: _ => by simp [Op.bytesLess, D6]
 | _ :: _, [] => by simp [Op.bytesLess, D6]
 | a :: x, b :: y => by
  have ih := Ho x y;simp only [Op.bytesLess, D6, Oa];rw [<- ih];by_cases h1 : a < b
  ·have : a.toNat < b.toNat := h1;have h3 : ((a.toNat : Int) < b.toNat) := by omega
   simp [h1, h3]
  ·by_cases h2 : a = b
   ·subst h2;simp [UInt8.lt_irrefl]
   ·have h4 : ¬ a.toNat < b.toNat := h1;have h5 : a.toNat ≠ b.toNat := fun e => h2 (UInt8.toNat_inj.1 e);have h6 : ¬ ((a.toNat : Int) < b.toNat) := by omega
    have h7 : ((b.toNat : Int) < a.toNat) := by omega
    simp [h1, h2, h6, h7]
def ZB : List Int -> List Int -> Int
 | a :: l, b :: m => if Oa a b ≠ 0 then Oa a b else ZB l m
 | _, _ => 0
def Aag : List Int -> List Int -> Int
 | [], [] => 0
 | [], _ :: _ => -1
 | _ :: _, [] => 1
 | a :: l, b :: m => if Oa a b ≠ 0 then Oa a b else Aag l m
theorem PC {a b : Int} (h : Oa a b = 0) : a = b := by unfold Oa at h; (repeat' split at h) <;> omega
def LF (a b : Ac) : Int := if D6 a.URI b.URI ≠ 0 then D6 a.URI b.URI else D6 a.Local b.Local
def ZG (x y : Bool × Ac) : Int := if x.1 && y.1 then LF x.2 y.2 else if x.1 then 1 else if y.1 then -1 else 0
theorem Rs (a b : List By8) : By a b = some (D6 a b) := by
 unfold By Bb;rw [<- Ho];simp only [beq_self_eq_true, Bool.not_true, ba, bc];cases h1 : Op.bytesLess a b <;> cases h2 : (a == b) <;> rfl
theorem W2 (x y : Int) : Ew [x, y] = some (if x ≠ 0 then x else y) := by
 have key : ∀ n, iter (A6 [x, y]) (n + 3) (0 : Int) = some (if x ≠ 0 then .inr x else if y ≠ 0 then .inr y else .inl ()) := fun n => by
  have a0 : ∀ r, A6 [x, y] r 0 = if x ≠ 0 then some (.inr x) else r 1 := fun r => by
   unfold A6;by_cases h : x = 0
   ·subst h; rfl
   ·have : (x != 0) = true := by simpa using h
    simp [idx, h, this]
  have a1 : ∀ r, A6 [x, y] r 1 = if y ≠ 0 then some (.inr y) else r 2 := fun r => by
   unfold A6;by_cases h : y = 0
   ·subst h; rfl
   ·have : (y != 0) = true := by simpa using h
    simp [idx, h, this]
  have a2 : ∀ r, A6 [x, y] r 2 = some (.inl ()) := fun r => rfl;show A6 [x, y] (iter _ (n + 2)) 0 = _;rw [a0];show (if x ≠ 0 then _ else A6 [x, y] (iter _ (n + 1)) 1) = _;rw [a1];show (if x ≠ 0 then _ else if y ≠ 0 then _ else A6 [x, y] (iter _ n) 2) = _;rw [a2];by_cases h : x = 0
  ·by_cases h2 : y = 0 <;> simp [h, h2]
  ·simp [h]
 unfold Ew;simp only [AA];rw [show FUEL = 18446744073709551613 + 3 from rfl, key];by_cases h : x = 0
 ·by_cases h2 : y = 0 <;> simp [h, h2]
 ·simp [h]
theorem OW (a b : Ac) : Et a b = some (LF a b) := by
 unfold Et;rw [Rs, Rs, ba, ba, W2, ba]; rfl
theorem To {α : Type} {l : List α} {i : Nat} (h : i < l.length) : l.drop i = l[i] :: l.drop (i + 1) := List.drop_eq_getElem_cons h
theorem QP {α : Type} {l : List α} {n : Nat} (h : n <= l.length) : slc l (0 : Int) (n : Int) = some (l.take n) := by
 unfold slc; rw [if_pos (by omega)]; simp
theorem Dc {σ ρ : Type} (b : (σ -> Option ρ) -> σ -> Option ρ) (n : Nat) (x : σ) : iter b (n + 1) x = b (iter b n) x := rfl
theorem FG {α : Type} {l : List α} {n : Nat} (h : n <= l.length) : slc l (n : Int) (l.length : Int) = some (l.drop n) := by
 unfold slc; rw [if_pos (by omega)]; simp only [Int.toNat_natCast]; rw [List.take_of_length_le (by simp)]
theorem Nb {σ ρ : Type} {b : (σ -> Option ρ) -> σ -> Option ρ} (I : Nat -> σ -> Prop) (N : Nat) {x0 : σ} (h0 : I 0 x0)
  (hs : ∀ i x rec, i < N -> I i x -> (∃ y, b rec x = rec y /\ I (i + 1) y) \/ ∃ o, b rec x = some o) (he : ∀ x rec, I N x -> ∃ o, b rec x = some o) (hN : N <= 1073741824) : ∃ o, iter b FUEL x0 = some o := by
 obtain ⟨o, e, _⟩ := Ax (b := b) I (fun _ => True) N (x0 := x0) h0 (fun i x rec hi hx => (hs i x rec hi hx).imp id fun ⟨o, e⟩ => ⟨o, e, trivial⟩) (fun x rec hx => (he x rec hx).imp fun o e => ⟨e, trivial⟩) (n := FUEL) (by unfold FUEL; omega);exact ⟨o, e⟩

set_option linter.unusedSimpArgs false
set_option linter.unusedVariables false
set_option maxRecDepth 20000
open Go.Lib (decodeL decodeN)
theorem NX (n b0 b1 b2 b3 : Nat) : (b0 < 128 -> decodeN n b0 b1 b2 b3 = (b0, 1)) /\ (2 <= (decodeN n b0 b1 b2 b3).2 -> 128 <= b1) /\ (3 <= (decodeN n b0 b1 b2 b3).2 -> 128 <= b2) /\ (4 <= (decodeN n b0 b1 b2 b3).2 -> 128 <= b3) /\ (decodeN n b0 b1 b2 b3).2 <= 4 := by
 unfold decodeN
 repeat' split
 all_goals refine ⟨fun h => ?_, fun h => ?_, fun h => ?_, fun h => ?_, ?_⟩
 all_goals first | rfl | omega | (simp only at *; omega)
theorem Lo (p : List By8) (x k : Nat) : (p.drop x).getD k 0 = p.getD (x + k) 0 := by simp [List.getD, List.getElem?_drop]
theorem DJ (p : List By8) (x : Nat) (hx : x < p.length) : 1 <= (decodeL (p.drop x)).2 /\ x + (decodeL (p.drop x)).2 <= p.length /\ ((p.getD x 0).toNat < 128 -> decodeL (p.drop x) = ((p.getD x 0).toNat, 1)) /\ ∀ k, 1 <= k -> k < (decodeL (p.drop x)).2 -> 128 <= (p.getD (x + k) 0).toNat := by
 have hne : p.drop x ≠ [] := by intro h; have := congrArg List.length h; simp at this; omega
 have h1 := Lib.decodeL_width (p.drop x);have h2 := Lib.decodeL_le (p.drop x) hne;have e := Lib.decodeL_N (p.drop x);simp only [Lo] at e;have f := NX (p.drop x).length (p.getD (x + 0) 0).toNat (p.getD (x + 1) 0).toNat (p.getD (x + 2) 0).toNat (p.getD (x + 3) 0).toNat;rw [<- e] at f;obtain ⟨f0, f1, f2, f3, f4⟩ := f;rw [List.length_drop] at h2;refine ⟨h1, by omega, fun h => f0 h, fun k hk1 hk2 => ?_⟩
 match k, hk1, hk2 with
 | 1, _, hk => exact f1 (by omega)
 | 2, _, hk => exact f2 (by omega)
 | 3, _, hk => exact f3 (by omega)
 | k + 4, _, hk => omega
theorem Mz (p : List By8) (x : Nat) : (rnS p x = ((decodeL (p.drop x)).1 : Int)) /\ wdS p x = (decodeL (p.drop x)).2 := by
 have := Lib.decodeL_drop ⟨p.toArray⟩ x;simp only at this;unfold rnS wdS;rw [<- this];exact ⟨rfl, rfl⟩
theorem TR (r : Int) (l : List Af) (hl : l.length <= 9223372036854775807) : ∃ b, Dt r l = some b := by
 unfold Dt;simp only [AA];obtain ⟨o, h1, _⟩ := Ax (b := CZ r l) (fun i x => x = (i : Int)) (fun _ => True) l.length (x0 := (0 : Int)) rfl
  (fun i x rec hi hx => by
   subst hx;unfold CZ;rw [bf (by omega), bb, Ao hi, ba, w64 (by omega) (by omega)];cases decide (r <= l[i].hi)
   ·exact .inl ⟨_, rfl, rfl⟩
   ·exact .inr ⟨_, rfl, trivial⟩)
  (fun x rec hx => ⟨_, by
   subst hx;unfold CZ
   rw [bg (by omega), bc], trivial⟩) (n := FUEL) (by unfold FUEL; omega)
 rw [h1, ba];cases o <;> exact ⟨_, rfl⟩
theorem Ml {γ : Type} (r : Int) (k : Bool -> Option γ) (hk : ∀ b, ∃ c, k b = some c) (l : List Af) (hl : l.length <= 9223372036854775807) : ∃ c, (Dt r l).bind k = some c := by
 obtain ⟨b, hb⟩ := TR r l hl;rw [hb]; exact hk b
theorem HX (r : Int) : ∃ b, Ce r = some b := by
 unfold Ce;cases decide (r < (128 : Int))
 ·rw [bc];exact Ml r _ (fun b => ⟨_, rfl⟩) _ (by decide)
 ·exact ⟨_, rfl⟩
theorem L1 (r : Int) : ∃ b, CC r = some b := by
 unfold CC;obtain ⟨b, hb⟩ := HX r;rw [hb, ba];simp only [AA];generalize ((((b || (r == (45 : Int))) || (r == (46 : Int))) || ((decide ((48 : Int) <= r)) && (decide (r <= (57 : Int))))) || (r == (183 : Int))) = c;cases c
 ·rw [bc];exact Ml r _ (fun b => ⟨_, rfl⟩) _ (by decide)
 ·exact ⟨_, rfl⟩
theorem Mk (r : Int) : ∃ b, C0 r = some b := by
 unfold C0;simp only [AA];generalize (((r == (9 : Int)) || (r == (10 : Int))) || (r == (13 : Int))) = c;cases c
 ·rw [bc];exact Ml r _ (fun b => ⟨_, rfl⟩) _ (by decide)
 ·exact ⟨_, rfl⟩
theorem Tj : CC 123 = some false := by kernel_rfl
theorem Lw (p : List By8) : ∃ b, Dw p = some b /\ (b = true -> p.length <= 100 /\ ∀ c ∈ p, c.toNat ≠ 123) := by
 unfold Dw;simp only [AA];by_cases hbad : ((p == ([] : List By8)) || decide ((100 : Int) < (p.length : Int))) = true
 ·rw [hbad]; exact ⟨false, rfl, fun h => by cases h⟩
 have hb' : ((p == ([] : List By8)) || decide ((100 : Int) < (p.length : Int))) = false := by simpa using hbad
 have hlen : p.length <= 100 := by
  have h := (Bool.or_eq_false_iff.1 hb').2;have := of_decide_eq_false h;omega
 rw [hb', bc];have hv : L_ValidString p = some (Lib.validD p) := by unfold L_ValidString; rw [if_pos (by omega)]
 rw [hv, ba];cases Lib.validD p
 ·exact ⟨false, rfl, fun h => by cases h⟩
 simp only [Bool.not_true, bc];obtain ⟨o, h1, h2⟩ := Ax (b := BO p) (fun i x => i <= x /\ x <= p.length /\ ∀ k, k < x -> (p.getD k 0).toNat ≠ 123) (fun o => match o with | .inl _ => ∀ k, k < p.length -> (p.getD k 0).toNat ≠ 123 | .inr b => b = false) p.length (x0 := (0 : Nat)) ⟨Nat.le_refl _, Nat.zero_le _, fun k hk => by omega⟩
  (fun i x rec hi ⟨hx1, hx2, hx3⟩ => by
   by_cases hxl : x < p.length
   ·obtain ⟨d1, d2, d3, d4⟩ := DJ p x hxl;obtain ⟨e1, e2⟩ := Mz p x;obtain ⟨bs, hs⟩ := HX (rnS p x);obtain ⟨bp, hp⟩ := L1 (rnS p x);unfold BO;simp only [AA];rw [bf hxl, bb, hs, hp];simp only [ba];cases bp
    ·refine .inr ⟨.inr false, ?_, rfl⟩;simp only [Bool.not_false, bb];generalize (((x : Nat) : Int) == (0 : Int)) = c;cases c <;> cases bs <;> rfl
    ·have next : (x + wdS p x) <= p.length /\ ∀ k, k < x + wdS p x -> (p.getD k 0).toNat ≠ 123 := by
      rw [e2];refine ⟨d2, fun k hk => ?_⟩;by_cases hkx : k < x
      ·exact hx3 k hkx
      ·by_cases hk0 : k = x
       ·subst hk0;intro h123;have := d3 (by omega);rw [this] at e1;simp only [h123] at e1;rw [e1] at hp;have := Tj.symm.trans hp;cases this
       ·have := d4 (k - x) (by omega) (by omega);rw [show x + (k - x) = k by omega] at this;omega
     have hres : ∀ c : Bool, (cond c (cond (!bs) (cond true (some (.inr false)) (rec (x + wdS p x))) (cond (!true) (some (.inr false)) (rec (x + wdS p x)))) (cond false (cond true (some (.inr false)) (rec (x + wdS p x))) (cond (!true) (some (.inr false)) (rec (x + wdS p x)))) : Option (Unit ⊕ Bool)) = rec (x + wdS p x) \/ (cond c (cond (!bs) (cond true (some (.inr false)) (rec (x + wdS p x))) (cond (!true) (some (.inr false)) (rec (x + wdS p x)))) (cond false (cond true (some (.inr false)) (rec (x + wdS p x))) (cond (!true) (some (.inr false)) (rec (x + wdS p x)))) : Option (Unit ⊕ Bool)) = some (.inr false) := by
      intro c; cases c <;> cases bs <;> first | exact .inl rfl | exact .inr rfl
     rcases hres (((x : Nat) : Int) == (0 : Int)) with h | h
     ·exact .inl ⟨x + wdS p x, h, by rw [e2]; omega, next.1, next.2⟩
     ·exact .inr ⟨.inr false, h, rfl⟩
   ·refine .inr ⟨.inl (), ?_, fun k hk => hx3 k (by omega)⟩;unfold BO
    rw [bg hxl, bc])
  (fun x rec ⟨hx1, hx2, hx3⟩ => ⟨.inl (), by
   unfold BO
   rw [bg (by omega), bc], fun k hk => hx3 k (by omega)⟩) (n := FUEL) (by unfold FUEL; omega)
 rw [h1, ba]
 cases o with
 | inl u =>
  refine ⟨true, rfl, fun _ => ⟨hlen, fun c hc => ?_⟩⟩;obtain ⟨k, hk, e⟩ := List.getElem_of_mem hc;have := h2 k hk;simpa [List.getD, hk, e] using this
 | inr b =>
  simp only at h2;subst h2;exact ⟨false, rfl, fun h => by cases h⟩
theorem PR (p : List By8) (x : Nat) (hx : x < p.length) (hl : p.length <= 1073741824) : ∃ r, DX p (x : Int) = some r /\ (r.2.2 = 0 -> r.2.1 = ((x + (decodeL (p.drop x)).2 : Nat) : Int)) := by
 obtain ⟨d1, d2, d3, d4⟩ := DJ p x hx;unfold DX;rw [bg (by omega), bg (by omega)];simp only [Bool.or_self, bc];have hs : slc p (x : Int) (p.length : Int) = some (p.drop x) := by
  unfold slc; rw [if_pos (by omega)]; simp only [Int.toNat_natCast]; rw [List.take_of_length_le (by simp)]
 rw [hs, ba];have hne : p.drop x ≠ [] := by intro h; have := congrArg List.length h; simp at this; omega
 have hd : L_DecodeRune (p.drop x) = some (((decodeL (p.drop x)).1 : Int), ((decodeL (p.drop x)).2 : Int)) := by
  unfold L_DecodeRune Lib.decodeGo
  rw [if_neg hne, if_neg (by
   show ¬ ((p.drop x).toArray.size = 0)
   simp; omega)]
  rfl
 rw [hd, ba];obtain ⟨b, hb⟩ := Mk ((decodeL (p.drop x)).1 : Int);simp only;cases ((((decodeL (p.drop x)).1 : Int) == (65533 : Int)) && decide (((decodeL (p.drop x)).2 : Int) < (3 : Int)))
 ·rw [bc, hb, ba];cases b
  ·exact ⟨_, rfl, fun h => by simp at h⟩
  ·refine ⟨_, rfl, fun _ => ?_⟩;simp only;rw [w64 (by omega) (by omega)]; omega
 ·exact ⟨_, rfl, fun h => by simp at h⟩
theorem HI (p : List By8) (hl : p.length <= 1073741824) : ∃ r, CY p = some r := by
 unfold CY;simp only [AA];obtain ⟨o, h1, _⟩ := Ax (b := Ch p) (fun i x => ∃ j : Nat, x = (j : Int) /\ i <= j /\ j <= p.length) (fun _ => True) p.length (x0 := (0 : Int)) ⟨0, rfl, Nat.le_refl _, Nat.zero_le _⟩
  (fun i x rec hi ⟨j, hx, hj1, hj2⟩ => by
   subst hx;unfold Ch;by_cases hjl : j < p.length
   ·obtain ⟨r, hr, hn⟩ := PR p j hjl hl;obtain ⟨d1, d2, d3, d4⟩ := DJ p j hjl;rw [bf (by omega), bb, hr, ba];by_cases e : r.2.2 = 0
    ·rw [show (r.2.2 != (0 : Int)) = false by simpa using e, bc];exact .inl ⟨_, rfl, _, hn e, by omega, d2⟩
    ·rw [show (r.2.2 != (0 : Int)) = true by simpa using e, bb];exact .inr ⟨_, rfl, trivial⟩
   ·rw [bg (by omega), bc]
    exact .inr ⟨_, rfl, trivial⟩)
  (fun x rec ⟨j, hx, hj1, hj2⟩ => ⟨_, by
   subst hx;unfold Ch
   rw [bg (by omega), bc], trivial⟩) (n := FUEL) (by unfold FUEL; omega)
 rw [h1, ba];cases o <;> exact ⟨_, rfl⟩

set_option linter.unusedSimpArgs false
set_option linter.unusedVariables false
set_option maxRecDepth 20000
open Go.Lib (decodeL decodeN)
theorem Ib {σ ρ : Type} {b : (σ -> Option ρ) -> σ -> Option ρ} (μ : σ -> Nat) (I : σ -> Prop) (R : ρ -> Prop)
  (step : ∀ x, I x -> (∃ y, (∀ rec, b rec x = rec y) /\ I y /\ μ y < μ x) \/ (∃ o, (∀ rec, b rec x = some o) /\ R o)) :
  ∀ (n : Nat) (x : σ), I x -> μ x < n -> ∃ o, iter b n x = some o /\ R o
 | 0, x, _, h => by omega
 | n + 1, x, hI, h1 => by
  rcases step x hI with ⟨y, e1, hI', hm⟩ | ⟨o, e1, hR⟩
  ·obtain ⟨o, g1, hR⟩ := Ib μ I R step n y hI' (by omega);exact ⟨o, by show b (iter b n) x = _; rw [e1, g1], hR⟩
  ·exact ⟨o, e1 _, hR⟩
theorem Us (p0 p1 : List By8) (h0 : p0.length <= 1073741824) (h1 : p1.length <= 1073741824) : ∃ o, iter (As p0 p1) FUEL (0 : Int) = some o /\
  (∀ a, o = .inr (.inl a) -> ∃ (i : Nat) (g0 : i < p0.length) (g1 : i < p1.length), a = (i : Int) /\ (128 : Int) <= ior .u8 (p0[i].toNat : Int) (p1[i].toNat : Int)) := by
 refine Ib (b := As p0 p1) (fun x => p0.length - x.toNat) (fun x => ∃ i : Nat, x = (i : Int) /\ i <= p0.length) _ ?_ FUEL (0 : Int) ⟨0, rfl, Nat.zero_le _⟩ (by unfold FUEL; omega);rintro _ ⟨i, rfl, hi⟩;by_cases hlt : i < p0.length /\ i < p1.length
 ·obtain ⟨g0, g1⟩ := hlt;have hmin : decide ((i : Int) < (if (p1.length : Int) < (p0.length : Int) then (p1.length : Int) else (p0.length : Int))) = true := by
   apply bf; split <;> omega
  have hb : ∀ rec, As p0 p1 rec (i : Int) = cond (decide ((128 : Int) <= (ior .u8 (p0[i].toNat : Int) (p1[i].toNat : Int))))
    (some (.inr (.inl (i : Int)))) (cond ((p1[i].toNat : Int) == (p0[i].toNat : Int)) (rec ((i + 1 : Nat) : Int))
     (cond (decide ((p1[i].toNat : Int) < (p0[i].toNat : Int)))
      (cond (((decide ((65 : Int) <= (p1[i].toNat : Int))) && (decide ((p1[i].toNat : Int) <= (90 : Int)))) && ((p0[i].toNat : Int) == (IntKind.wrap .u8 ((IntKind.wrap .u8 ((p1[i].toNat : Int) + (97 : Int))) - (65 : Int))))) (rec ((i + 1 : Nat) : Int)) (some (.inr (.inr false))))
      (cond (((decide ((65 : Int) <= (p0[i].toNat : Int))) && (decide ((p0[i].toNat : Int) <= (90 : Int)))) && ((p1[i].toNat : Int) == (IntKind.wrap .u8 ((IntKind.wrap .u8 ((p0[i].toNat : Int) + (97 : Int))) - (65 : Int))))) (rec ((i + 1 : Nat) : Int)) (some (.inr (.inr false)))))) := by
   intro rec;unfold As;simp only [AA];rw [hmin, bb, Ao g0, ba, Ao g1, ba, w64 (by omega) (by omega)];rfl
  have go : ∃ y : Int, y = ((i + 1 : Nat) : Int) /\ (∃ i : Nat, y = (i : Int) /\ i <= p0.length) /\ p0.length - y.toNat < p0.length - ((i : Nat) : Int).toNat := ⟨_, rfl, ⟨_, rfl, g0⟩, by omega⟩
  obtain ⟨y, hy, hI, hm⟩ := go
  cases c1 : decide ((128 : Int) <= (ior .u8 (p0[i].toNat : Int) (p1[i].toNat : Int))) with
  | true =>
   right
   exact ⟨.inr (.inl (i : Int)), fun rec => by rw [hb, c1, bb], fun a ha => by
    injection ha with ha; injection ha with ha
    exact ⟨i, g0, g1, ha.symm, of_decide_eq_true c1⟩⟩
  | false =>
   have fin : ∀ o : Unit ⊕ Int ⊕ Bool, o = .inr (.inr false) -> ∀ a, o = .inr (.inl a) -> ∃ (i : Nat) (g0 : i < p0.length) (g1 : i < p1.length), a = (i : Int) /\ (128 : Int) <= ior .u8 (p0[i].toNat : Int) (p1[i].toNat : Int) := by
    rintro o rfl a ha; cases ha
   cases c2 : ((p1[i].toNat : Int) == (p0[i].toNat : Int)) with
   | true => exact .inl ⟨y, fun rec => by rw [hb, c1, bc, c2, bb, hy], hI, hm⟩
   | false =>
    cases c3 : decide ((p1[i].toNat : Int) < (p0[i].toNat : Int)) with
    | true =>
     cases c4 : (((decide ((65 : Int) <= (p1[i].toNat : Int))) && (decide ((p1[i].toNat : Int) <= (90 : Int)))) && ((p0[i].toNat : Int) == (IntKind.wrap .u8 ((IntKind.wrap .u8 ((p1[i].toNat : Int) + (97 : Int))) - (65 : Int))))) with
     | true => exact .inl ⟨y, fun rec => by rw [hb, c1, bc, c2, bc, c3, bb, c4, bb, hy], hI, hm⟩
     | false => exact .inr ⟨_, fun rec => by rw [hb, c1, bc, c2, bc, c3, bb, c4, bc], fin _ rfl⟩
    | false =>
     cases c4 : (((decide ((65 : Int) <= (p0[i].toNat : Int))) && (decide ((p0[i].toNat : Int) <= (90 : Int)))) && ((p1[i].toNat : Int) == (IntKind.wrap .u8 ((IntKind.wrap .u8 ((p0[i].toNat : Int) + (97 : Int))) - (65 : Int))))) with
     | true => exact .inl ⟨y, fun rec => by rw [hb, c1, bc, c2, bc, c3, bc, c4, bb, hy], hI, hm⟩
     | false => exact .inr ⟨_, fun rec => by rw [hb, c1, bc, c2, bc, c3, bc, c4, bc], fin _ rfl⟩
 ·right;have hmin : decide ((i : Int) < (if (p1.length : Int) < (p0.length : Int) then (p1.length : Int) else (p0.length : Int))) = false := by
   apply bg; split <;> omega
  exact ⟨.inl (), fun rec => by unfold As; rw [hmin, bc], fun a ha => by cases ha⟩
theorem Rq (c rn : Int) (hc : c = 120 \/ c = 109 \/ c = 108) (hr : 128 <= rn) : iter (AU c rn) FUEL (c - 32) = some c := by
 obtain ⟨m, hm⟩ : ∃ m, FUEL = m + 1 + 1 := ⟨FUEL - 2, by unfold FUEL; rfl⟩
 rw [hm, Dc];unfold AU;have h1 : ((c - 32 != c) && decide (c - 32 < rn)) = true := by simp; omega
 rw [h1, bb];have h2 : L_SimpleFold (c - 32) = some c := by
  rcases hc with rfl | rfl | rfl <;> rfl
 rw [h2, ba];show iter (AU c rn) (m + 1) c = some c;rw [Dc];unfold AU;have h3 : ((c != c) && decide (c < rn)) = false := by simp
 rw [h3, bc]
def Uj (l : List By8) : Prop := l = [120, 109, 108] \/ l = [109, 108] \/ l = [108] \/ l = []
theorem Vb (s : List By8) (hs : s.length <= 1073741824) (l : List By8) (hl : Uj l) : ∃ o, iter (At s) FUEL (l, (0 : Nat)) = some o /\ True := by
 refine Ib (b := At s) (fun x => s.length - x.2) (fun x => Uj x.1) _ ?_ FUEL (l, (0 : Nat)) hl (by unfold FUEL; dsimp only; omega);rintro ⟨a, p⟩ hx;dsimp only at hx ⊢;by_cases hp : p < s.length
 ·obtain ⟨r1, r2⟩ := Mz s p;obtain ⟨d1, d2, _⟩ := DJ s p hp;have hw : s.length - (p + wdS s p) < s.length - p := by rw [r2]; omega
  have core : ∀ (c : By8) (t : List By8), a = c :: t -> ((c.toNat : Int) = 120 \/ (c.toNat : Int) = 109 \/ (c.toNat : Int) = 108) -> L_DecodeRuneInString a = some ((c.toNat : Int), 1) -> Uj t ->
    (∃ y : List By8 × Nat, (∀ rec, At s rec (a, p) = rec y) /\ Uj y.1 /\ s.length - y.2 < s.length - p) \/ (∃ o, (∀ rec, At s rec (a, p) = some o) /\ True) := by
   intro c t ha hc hd ht;have hsl : slc a (1 : Int) (a.length : Int) = some t := by rw [M4 (by rw [ha]; simp), ha]; rfl
   generalize hrn : rnS s p = rn at *
   have hb : ∀ rec, At s rec (a, p) = cond ((c.toNat : Int) == rn) (rec (t, p + wdS s p)) (cond (decide ((c.toNat : Int) < rn))
     (cond (decide (rn < (128 : Int))) (cond (((decide ((65 : Int) <= (c.toNat : Int))) && (decide ((c.toNat : Int) <= (90 : Int)))) && (rn == (IntKind.wrap .i32 ((IntKind.wrap .i32 ((c.toNat : Int) + (97 : Int))) - (65 : Int))))) (rec (t, p + wdS s p)) (some (.inr false)))
      ((L_SimpleFold (c.toNat : Int)).bind fun x102 => (iter (AU (c.toNat : Int) rn) FUEL x102).bind fun o => cond (o == rn) (rec (t, p + wdS s p)) (some (.inr false))))
     (cond (decide ((c.toNat : Int) < (128 : Int))) (cond (((decide ((65 : Int) <= rn)) && (decide (rn <= (90 : Int)))) && ((c.toNat : Int) == (IntKind.wrap .i32 ((IntKind.wrap .i32 (rn + (97 : Int))) - (65 : Int))))) (rec (t, p + wdS s p)) (some (.inr false)))
      ((L_SimpleFold rn).bind fun x102 => (iter (AU rn (c.toNat : Int)) FUEL x102).bind fun o => cond (o == (c.toNat : Int)) (rec (t, p + wdS s p)) (some (.inr false))))) := by
    intro rec;unfold At;simp only [AA];rw [bf hp, bb, show ((a.length : Int) == 0) = false by rw [ha]; simp; omega, bc, hd, ba];dsimp only;rw [hsl, ba, hrn]
   have two : ∀ k : Bool, (∃ y : List By8 × Nat, (∀ rec : List By8 × Nat -> Option ((List By8) ⊕ Bool), cond k (rec (t, p + wdS s p)) (some (.inr false)) = rec y) /\ Uj y.1 /\ s.length - y.2 < s.length - p) \/ (∃ o, (∀ rec : List By8 × Nat -> Option ((List By8) ⊕ Bool), cond k (rec (t, p + wdS s p)) (some (.inr false)) = some o) /\ True) := by
    intro k
    cases k with
    | true => exact .inl ⟨(t, p + wdS s p), fun _ => rfl, ht, hw⟩
    | false => exact .inr ⟨_, fun _ => rfl, trivial⟩
   simp only [hb]
   cases ((c.toNat : Int) == rn) with
   | true => exact .inl ⟨(t, p + wdS s p), fun _ => rfl, ht, hw⟩
   | false =>
    simp only [bc];by_cases c3 : (c.toNat : Int) < rn
    ·rw [bf c3];simp only [bb];by_cases c4 : rn < 128
     ·rw [bf c4];simp only [bb];exact two _
     ·rw [bg c4];have hf : L_SimpleFold (c.toNat : Int) = some ((c.toNat : Int) - 32) := by rcases hc with h | h | h <;> rw [h] <;> rfl
      simp only [bc, hf, ba, Rq _ rn hc (by omega)];exact two _
    ·rw [bg c3, bf (show (c.toNat : Int) < 128 by omega)];simp only [bc, bb];exact two _
  rcases hx with h | h | h | h
  ·exact core 120 [109, 108] h (.inl rfl) (by rw [h]; rfl) (.inr (.inl rfl))
  ·exact core 109 [108] h (.inr (.inl rfl)) (by rw [h]; rfl) (.inr (.inr (.inl rfl)))
  ·exact core 108 [] h (.inr (.inr rfl)) (by rw [h]; rfl) (.inr (.inr (.inr rfl)))
  ·right;refine ⟨.inr false, fun rec => ?_, trivial⟩;unfold At;dsimp only;rw [bf hp, bb, h]; rfl
 ·right;refine ⟨.inl a, fun rec => ?_, trivial⟩;unfold At;dsimp only;rw [bg hp, bc]
theorem S1 (w : List By8) (hw : w.length <= 1073741824) : ∃ r, Bk w [120, 109, 108] = some r := by
 obtain ⟨o, e1, e2⟩ := Us w [120, 109, 108] hw (by simp);unfold Bk;simp only [AA];rw [e1, ba]
 match o, e2 with
 | .inl _, _ => exact ⟨_, rfl⟩
 | .inr (.inr r), _ => exact ⟨_, rfl⟩
 | .inr (.inl a), e2 =>
  obtain ⟨i, g0, g1, rfl, _⟩ := e2 a rfl;have hx : Uj (([120, 109, 108] : List By8).drop i) := by
   match i, g1 with
   | 0, _ => exact .inl rfl
   | 1, _ => exact .inr (.inl rfl)
   | 2, _ => exact .inr (.inr (.inl rfl))
  dsimp only;rw [FG (Nat.le_of_lt g0), ba, FG (Nat.le_of_lt g1), ba];obtain ⟨o2, f1, _⟩ := Vb (w.drop i) (by rw [List.length_drop]; omega) _ hx;rw [f1, ba]
  cases o2 with
  | inl q => exact ⟨_, rfl⟩
  | inr q => exact ⟨_, rfl⟩

set_option linter.unusedSimpArgs false
set_option linter.unusedVariables false
set_option maxRecDepth 20000
/- A node's size: how many values and letters it holds. -/
mutual
def Aq : Aa -> Nat
 | ⟨Kind, Name, Attrs, Kids, Text⟩ => (1 + ((((Name.URI.length + 1) + ((Name.Local.length + 1) + 0)) + 1) + (((List.map (fun x : Ae => ((((x.Name.URI.length + 1) + ((x.Name.Local.length + 1) + 0)) + 1) + ((x.Value.length + 1) + 0)) + 1) Attrs).sum + 1) + ((Fa Kids + 1) + ((Text.length + 1) + 0))))) + 1
def Fa : List Aa -> Nat
 | [] => 0
 | x :: l => Aq x + Fa l
end
theorem Hk : ∀ l : List Aa, Fa l = (l.map Aq).sum
 | [] => by simp [Fa]
 | x :: l => by simp [Fa, Hk l]
abbrev szN := Aq
theorem Kr {α : Type} (f : α -> Nat) (hf : ∀ x, 1 <= f x) : ∀ l : List α, l.length <= (l.map f).sum
 | [] => by simp
 | x :: l => by have := Kr f hf l; have := hf x; simp only [bi, List.map_cons, List.sum_cons]; omega
theorem LL (x : Aa) : 1 <= szN x := by cases x; simp only [szN, Aq]; omega
theorem DO (x : Aa) : Fa x.Kids < szN x := by cases x; simp only [szN, Aq]; omega
theorem Gt {l : List Aa} {y : Aa} (h : y ∈ l) : szN y <= Fa l := by
 induction l with
 | nil => cases h
 | cons x l ih =>
  simp only [Fa]
  cases h with
  | head => show szN y <= Aq y + _; exact Nat.le_add_right _ _
  | tail _ h => have := ih h; omega
theorem HO {x y : Aa} (h : y ∈ x.Kids) : szN y < szN x := Nat.lt_of_le_of_lt (Gt h) (DO x)
theorem Br (x : Aa) : x.Kids.length <= szN x := by
 have h1 := DO x;have h2 := Kr szN LL x.Kids;rw [Hk] at h1;have : (List.map szN x.Kids).sum = (List.map Aq x.Kids).sum := rfl;omega
theorem CH (x : Aa) : x.Attrs.length <= szN x := by
 cases x with
 | mk K N A Ks T =>
  have h := Kr (fun x : Ae => ((((x.Name.URI.length + 1) + ((x.Name.Local.length + 1) + 0)) + 1) + ((x.Value.length + 1) + 0)) + 1) (fun x => by omega) A;simp only [szN, Aq];omega
/- The text below a node. -/
def gT (k : Aa) : List By8 := if k.Kind = 3 then k.Text else []
mutual
def UW : Aa -> List By8
 | ⟨_, _, _, Kids, _⟩ => RL Kids
def RL : List Aa -> List By8
 | [] => []
 | k :: l => (gT k ++ UW k) ++ RL l
end
theorem DP {a b : List By8} (h : a.length + b.length <= 9223372036854775807) : cat a b = some (a ++ b) := by unfold cat; rw [if_pos h]
/- All nodes, the whole first. -/
mutual
def AD : Aa -> List Aa
 | ⟨K, N, A, Kids, T⟩ => ⟨K, N, A, Kids, T⟩ :: B4 Kids
def B4 : List Aa -> List Aa
 | [] => []
 | k :: l => AD k ++ B4 l
end
theorem B1 (x : Aa) : AD x = x :: B4 x.Kids := by cases x; simp only [AD]
theorem CX : ∀ l m : List Aa, B4 (l ++ m) = B4 l ++ B4 m
 | [], m => by simp [B4]
 | k :: l, m => by simp [B4, CX l m]
theorem HM {l : List Aa} {i : Nat} (h : i < l.length) : B4 (l.take (i + 1)) = B4 (l.take i) ++ AD l[i] := by
 rw [List.take_add_one, List.getElem?_eq_getElem h, CX]; simp [B4]
mutual
theorem Fu : ∀ x : Aa, (AD x).length <= szN x
 | ⟨K, N, A, Kids, T⟩ => by
  have h1 := FU Kids;have h2 := DO ⟨K, N, A, Kids, T⟩;simp only [AD, bi];simp only at h2;omega
theorem FU : ∀ l : List Aa, (B4 l).length <= Fa l
 | [] => by simp [B4]
 | k :: l => by
  have h1 := Fu k;have h2 := FU l;simp only [B4, Fa, bm];have : szN k = Aq k := rfl;omega
end
theorem GN (l : List Aa) (i : Nat) : (B4 (l.take i)).length <= (B4 l).length := by
 have := CX (l.take i) (l.drop i);rw [List.take_append_drop] at this;rw [this]; simp
def atP : Aa -> List Int -> Option Aa
 | x, [] => some x
 | x, s :: r => if s < 0 \/ (x.Kids.length : Int) <= s then none else (x.Kids[s.toNat]?).bind fun y => atP y r
def XK : Aa := ⟨0, ⟨[], []⟩, [], [], []⟩
def WI (K : Int) (nm : Ac) : List Ae -> Option (List By8)
 | [] => none
 | a :: l => if (K == (2 : Int)) && ((a.Name.URI == nm.URI) && ((a.Name.Local == nm.Local) && true)) then some a.Value else WI K nm l

set_option linter.unusedSimpArgs false
set_option linter.unusedVariables false
set_option maxRecDepth 20000
def gB {α : Type} (f : α -> Option Bool) (x : α) : Bool := (f x).getD false
theorem ML {α : Type} {l : List α} {p : α -> Bool} {i : Nat} (hi : i < l.length) : (l.drop i).any p = (p l[i] || (l.drop (i + 1)).any p) := by
 rw [List.drop_eq_getElem_cons hi, List.any_cons]
theorem B8 {l : List Aa} {f : Aa -> Option Bool} (hl : l.length <= 1073741824) (h : ∀ x ∈ l, ∃ b, f x = some b) : Ag l f = some (l.any (gB f)) := by
 unfold Ag Ay;simp only [AA]
 obtain ⟨o, e, hR⟩ := Ax (b := AF l f) (fun i s => s = (i : Int) /\ l.any (gB f) = (l.drop i).any (gB f)) (fun o => match o with | .inl _ => l.any (gB f) = false | .inr i => 0 <= i /\ l.any (gB f) = true) l.length (x0 := (0 : Int)) ⟨rfl, rfl⟩ (by
  rintro i _ rec hi ⟨rfl, ha⟩;obtain ⟨b, hb⟩ := h _ (bn hi);have hg : gB f l[i] = b := by simp [gB, hb]
  rw [ML hi, hg] at ha;unfold AF;rw [bf (by omega), bb, Ao hi, ba, hb, ba]
  cases b with
  | true => exact .inr ⟨_, rfl, by omega, by simpa using ha⟩
  | false =>
   refine .inl ⟨((i + 1 : Nat) : Int), ?_, rfl, by simpa using ha⟩
   rw [bc, w64 (by omega) (by omega)]; rfl) (by
  rintro _ rec ⟨rfl, ha⟩;refine ⟨.inl (), ?_, ?_⟩
  ·unfold AF;rw [bg (by omega), bc]
  ·show l.any (gB f) = false
   rw [ha, List.drop_length]; rfl) (n := FUEL) (by unfold FUEL; omega)
 rw [e, ba]
 cases o with
 | inl u => rw [show l.any (gB f) = false from hR]; rfl
 | inr i => obtain ⟨h0, h1⟩ := hR; rw [h1]; simp [h0]
theorem Fv {l : List Ae} {f : Ae -> Option Bool} (hl : l.length <= 1073741824) (h : ∀ x ∈ l, ∃ b, f x = some b) : Al l f = some (l.any (gB f)) := by
 unfold Al Az;simp only [AA]
 obtain ⟨o, e, hR⟩ := Ax (b := AE l f) (fun i s => s = (i : Int) /\ l.any (gB f) = (l.drop i).any (gB f)) (fun o => match o with | .inl _ => l.any (gB f) = false | .inr i => 0 <= i /\ l.any (gB f) = true) l.length (x0 := (0 : Int)) ⟨rfl, rfl⟩ (by
  rintro i _ rec hi ⟨rfl, ha⟩;obtain ⟨b, hb⟩ := h _ (bn hi);have hg : gB f l[i] = b := by simp [gB, hb]
  rw [ML hi, hg] at ha;unfold AE;rw [bf (by omega), bb, Ao hi, ba, hb, ba]
  cases b with
  | true => exact .inr ⟨_, rfl, by omega, by simpa using ha⟩
  | false =>
   refine .inl ⟨((i + 1 : Nat) : Int), ?_, rfl, by simpa using ha⟩
   rw [bc, w64 (by omega) (by omega)]; rfl) (by
  rintro _ rec ⟨rfl, ha⟩;refine ⟨.inl (), ?_, ?_⟩
  ·unfold AE;rw [bg (by omega), bc]
  ·show l.any (gB f) = false
   rw [ha, List.drop_length]; rfl) (n := FUEL) (by unfold FUEL; omega)
 rw [e, ba]
 cases o with
 | inl u => rw [show l.any (gB f) = false from hR]; rfl
 | inr i => obtain ⟨h0, h1⟩ := hR; rw [h1]; simp [h0]
theorem OC {α : Type} {l : List α} {f : α -> Option Bool} (h : l.any (gB f) = false) {x : α} (hx : x ∈ l) (ha : ∃ b, f x = some b) : f x = some false := by
 obtain ⟨b, hb⟩ := ha;have := List.any_eq_false.1 h x hx;simp [gB, hb] at this;rw [hb, this]
theorem RY : ∀ (n : Nat) (p : Aa) (l : List Aa), szN p < n -> l.length + szN p <= 2097152 -> iter BL n (p, l) = some (l ++ AD p)
 | 0, p, l, h, _ => by omega
 | n + 1, p, l, h, hl => by
  have hk := DO p;have hkl := Br p;have ih := fun q m => RY n q m;rw [Dc];generalize iter BL n = rc at ih ⊢;unfold BL;simp only [AA];rw [EE (by simp only [bi, bj]; have := LL p; omega) (by simp only [bi, bj]; have := LL p; omega), ba]
  obtain ⟨o, e, hR⟩ := Ax (b := DK p rc) (fun i s => s = (l ++ p :: B4 (p.Kids.take i), (i : Int))) (fun o => o = l ++ p :: B4 p.Kids) p.Kids.length (x0 := (l ++ [p], (0 : Int))) (by simp [B4]) (by
   rintro i _ rec hi rfl;left;have h1 := Gt (bn hi);have h2 := GN p.Kids i;have h3 := FU p.Kids;have h4 := FU (p.Kids.take i);have h5 : Fa (p.Kids.take i) + szN p.Kids[i] <= Fa p.Kids := by
    have hs : ∀ (a b : List Aa), Fa (a ++ b) = Fa a + Fa b := fun a b => by simp [Hk]
    have e1 : p.Kids = p.Kids.take i ++ p.Kids[i] :: p.Kids.drop (i + 1) := by rw [<- List.drop_eq_getElem_cons hi, List.take_append_drop]
    have e2 : Fa p.Kids = Fa (p.Kids.take i) + (szN p.Kids[i] + Fa (p.Kids.drop (i + 1))) := by
     conv => lhs; rw [e1]
     rw [hs]; rfl
    omega
   refine ⟨_, ?_, rfl⟩;unfold DK;dsimp only;rw [bf (by omega), bb, Ao hi, ba, ih p.Kids[i] _ (by omega) (by simp only [bm, bi]; omega), ba, w64 (by omega) (by omega), HM hi]
   simp) (by
   rintro _ rec rfl;refine ⟨_, ?_, rfl⟩;unfold DK;dsimp only
   rw [bg (by omega), bc, List.take_length]) (n := FUEL) (by unfold FUEL; omega)
  rw [e, ba, hR, B1]
theorem IX (d : Aa) (h : szN d <= 1049600) : Ej d [] = some (AD d) := by
 have := RY FUEL d [] (by unfold FUEL; omega) (by simp; omega);unfold Ej;rw [this]; rfl
mutual
theorem FA : ∀ (x : Aa), ∀ y ∈ AD x, szN y <= szN x
 | ⟨k, nm, a, ks, t⟩ => fun y hy => by
  rw [B1] at hy;rcases List.mem_cons.1 hy with rfl | hy
  ·exact Nat.le_refl _
  ·have := Nc ks y hy;have := DO ⟨k, nm, a, ks, t⟩;dsimp only at this;omega
theorem Nc : ∀ (l : List Aa), ∀ y ∈ B4 l, szN y <= Fa l
 | [] => fun y hy => by simp [B4] at hy
 | x :: l => fun y hy => by
  simp only [B4, List.mem_append] at hy;simp only [Fa];rcases hy with hy | hy
  ·have := FA x y hy; show szN y <= szN x + _; omega
  ·have := Nc l y hy; omega
end
theorem Rj (p k : Int) : ∃ b, El p k = some b := by
 unfold El;cases (p == (1 : Int)) <;> cases (p == (2 : Int)) <;> exact ⟨_, rfl⟩
theorem MM (x : Aa) (h : szN x <= 1049600) : ∃ b, CW x = some b /\ (b = false -> x.Kind ≠ 2 -> x.Attrs = []) := by
 have hl := Br x;have hc : Ag x.Kids (fun z0 => Cd z0 x) = some (x.Kids.any (gB fun z0 => Cd z0 x)) := B8 (by omega) fun y _ => by
  unfold Cd;obtain ⟨b, hb⟩ := Rj x.Kind y.Kind;rw [hb]; exact ⟨_, rfl⟩
 have key : ∀ a : Bool, ∃ b, (cond a (some true) ((Ag x.Kids (fun z0 => Cd z0 x)).bind fun x21 => some x21) : Option Bool) = some b /\ (b = false -> a = false) := by
  intro a
  cases a with
  | true => exact ⟨true, rfl, id⟩
  | false => rw [hc]; exact ⟨_, rfl, fun _ => rfl⟩
 have fin : ∀ a : Bool, (a = false -> x.Kind ≠ 2 -> x.Attrs = []) -> ∃ b, (cond a (some true) ((Ag x.Kids (fun z0 => Cd z0 x)).bind fun x21 => some x21) : Option Bool) = some b /\ (b = false -> x.Kind ≠ 2 -> x.Attrs = []) := by
  intro a ha;obtain ⟨b, e, hb⟩ := key a;exact ⟨b, e, fun h => ha (hb h)⟩
 have noA : ∀ q r : Bool, ((((x.Kind != (2 : Int)) && (decide ((0 : Int) < (x.Attrs.length : Int)))) || q) || r) = false -> x.Kind ≠ 2 -> x.Attrs = [] := by
  intro q r hq hk;have h1 := (Bool.or_eq_false_iff.1 (Bool.or_eq_false_iff.1 hq).1).1;rw [show (x.Kind != (2 : Int)) = true by simpa using hk, Bool.true_and, decide_eq_false_iff_not] at h1;exact List.length_eq_zero_iff.1 (by omega)
 unfold CW;simp only [AA]
 cases h1 : (x.Kind == (1 : Int)) with
 | true => rw [bb]; exact fin _ (noA _ _)
 | false =>
  rw [bc]
  cases h2 : (x.Kind == (2 : Int)) with
  | true => rw [bb]; exact fin _ (fun _ hk => absurd (by simpa using h2) hk)
  | false =>
   rw [bc]
   cases h5 : (x.Kind == (5 : Int)) with
   | true => rw [bb]; exact fin _ (fun ha => noA _ false (by rw [Bool.or_false]; exact ha))
   | false => rw [bc]; exact fin _ (fun ha => noA _ false (by rw [Bool.or_false]; exact ha))
theorem R8 : ∀ (n : Nat) (x : Aa) (a : Int), szN x < n -> szN x <= 1049600 -> 0 <= a -> a + szN x <= 4000000 -> ∃ b, iter Bi n (x, a) = some b
 | 0, x, a, h, _, _, _ => by omega
 | n + 1, x, a, h, hs, h0, h1 => by
  have hl := Br x;have ih := fun y a => R8 n y a;rw [Dc];generalize iter Bi n = rc at ih ⊢;have hc : ∀ b : Int, 0 <= b -> b <= a + 1 -> ∃ r, Ag x.Kids (fun z0 => BN rc z0 b) = some r := by
   intro b hb0 hb1;refine ⟨_, B8 (by omega) fun y hy => ?_⟩;have h3 := HO hy;unfold BN;obtain ⟨r, hr⟩ := ih y b (by omega) (by omega) hb0 (by omega);rw [hr]; exact ⟨_, rfl⟩
  unfold Bi;simp only [AA]
  cases (x.Kind == (2 : Int)) with
  | true =>
   rw [bb]
   cases decide ((32 : Int) < a) with
   | true => exact ⟨_, rfl⟩
   | false =>
    rw [bc, w64 (by omega) (by omega)];obtain ⟨r, hr⟩ := hc (a + 1) (by omega) (by omega);rw [hr]; exact ⟨_, rfl⟩
  | false =>
   rw [bc];obtain ⟨r, hr⟩ := hc a h0 (by omega);rw [hr]; exact ⟨_, rfl⟩
theorem NY (x : Aa) (h : szN x <= 1049600) : ∃ b, CE x = some b := by
 have hl := CH x;unfold CE;simp only [AA]
 cases ((decide ((64 : Int) < (x.Attrs.length : Int))) || (decide ((8192 : Int) < (x.Text.length : Int)))) with
 | true => exact ⟨_, rfl⟩
 | false =>
  rw [bc, Fv (l := x.Attrs) (f := Dg) (by omega) fun y _ => ⟨_, rfl⟩];exact ⟨_, rfl⟩
theorem FZ {x : Aa} {a : Ae} (ha : a ∈ x.Attrs) : a.Name.URI.length <= szN x /\ a.Name.Local.length <= szN x /\ a.Value.length <= szN x := by
 cases x with
 | mk K N A Ks T =>
  have key : ∀ (l : List Ae), a ∈ l -> ((((a.Name.URI.length + 1) + ((a.Name.Local.length + 1) + 0)) + 1) + ((a.Value.length + 1) + 0)) + 1 <= (List.map (fun x : Ae => ((((x.Name.URI.length + 1) + ((x.Name.Local.length + 1) + 0)) + 1) + ((x.Value.length + 1) + 0)) + 1) l).sum := by
   intro l
   induction l with
   | nil => intro h; cases h
   | cons y l ih =>
    intro h;simp only [List.map_cons, List.sum_cons];rcases List.mem_cons.1 h with rfl | h
    ·omega
    ·have := ih h; omega
  have := key A ha;simp only [szN, Aq];omega
theorem EO (x : Aa) : x.Name.URI.length <= szN x /\ x.Name.Local.length <= szN x /\ x.Text.length <= szN x := by
 cases x; simp only [szN, Aq]; omega
theorem JA (p : List By8) (h : p.length <= 1073741824) : ∃ b, DD p = some b := by
 unfold DD;obtain ⟨r, hr⟩ := HI p h;rw [hr]; exact ⟨_, rfl⟩
theorem GJ (n : Ac) (h : n.URI.length <= 1073741824) : ∃ b, Bz n = some b := by
 unfold Bz;obtain ⟨b, hb, _⟩ := Lw n.Local;obtain ⟨c, hc⟩ := JA n.URI h;rw [hb, ba];simp only [AA]
 cases ((!b) || (decide ((100 : Int) < (n.URI.length : Int)))) with
 | true => exact ⟨_, rfl⟩
 | false => rw [bc, hc]; exact ⟨_, rfl⟩
theorem Kj (x : Aa) (h : szN x <= 1049600) : ∃ b, A5 x = some b := by
 have hl := CH x;have hn := EO x;unfold A5;simp only [AA]
 cases (x.Kind == (2 : Int)) with
 | true =>
  obtain ⟨b, hb⟩ := GJ x.Name (by omega);rw [bb, hb, ba]
  cases b with
  | true => exact ⟨_, rfl⟩
  | false =>
   rw [bc, Fv (by omega) fun y hy => by
    unfold Cf;have := FZ hy;obtain ⟨c, hc⟩ := GJ y.Name (by omega)
    rw [hc]; exact ⟨_, rfl⟩]
   exact ⟨_, rfl⟩
 | false =>
  rw [bc]
  cases (x.Kind == (5 : Int)) with
  | true =>
   obtain ⟨b, hb, _⟩ := Lw x.Name.Local;rw [bb, hb, ba]
   cases b with
   | false => exact ⟨_, rfl⟩
   | true =>
    obtain ⟨r, hr⟩ := S1 x.Name.Local (by omega);rw [Bool.not_true, bc, hr]; exact ⟨_, rfl⟩
  | false => exact ⟨_, rfl⟩
theorem Mi (x : Aa) (h : szN x <= 1049600) : ∃ b, Bt x = some b := by
 have hl := CH x;have hn := EO x;unfold Bt;obtain ⟨b, hb⟩ := JA x.Text (by omega);rw [hb, ba];simp only [AA]
 cases b with
 | true => exact ⟨_, rfl⟩
 | false =>
  rw [bc, Fv (by omega) fun y hy => by
   unfold CV;have := FZ hy;obtain ⟨c, hc⟩ := JA y.Value (by omega)
   rw [hc]; exact ⟨_, rfl⟩]
  exact ⟨_, rfl⟩
def RiseA (l : List Ae) : Prop := ∀ i (h : i + 1 < l.length), LF (l[i]'(by omega)).Name l[i + 1].Name < 0
theorem GO (x : Aa) (h : szN x <= 1049600) : ∃ b, AW x = some b /\ (b = false -> RiseA x.Attrs) := by
 have hl := CH x;unfold AW;simp only [AA]
 obtain ⟨o, e, hR⟩ := Ax (b := A3 x) (fun i s => s = (i : Int) /\ ∀ j (h : j + 1 < x.Attrs.length), j + 1 < i -> LF (x.Attrs[j]'(by omega)).Name x.Attrs[j + 1].Name < 0) (fun o => match o with | .inl _ => RiseA x.Attrs | .inr b => b = true) x.Attrs.length (x0 := (0 : Int)) ⟨rfl, fun j h hj => by omega⟩ (by
  rintro i _ rec hi ⟨rfl, ha⟩;unfold A3;simp only [AA];rw [bf (by omega), bb];by_cases h0 : i = 0
  ·subst h0;left;refine ⟨((0 + 1 : Nat) : Int), ?_, rfl, fun j h hj => by omega⟩;rw [bg (by omega), bc, bc, w64 (by omega) (by omega)]; rfl
  ·obtain ⟨j, rfl⟩ : ∃ j, i = j + 1 := ⟨i - 1, by omega⟩
   rw [bf (by omega), bb, w64 (by omega) (by omega), show ((j + 1 : Nat) : Int) - 1 = (j : Int) by omega, Ao (by omega : j < x.Attrs.length), ba, Ao hi, ba, OW, ba]
   cases hc : decide ((0 : Int) <= LF x.Attrs[j].Name x.Attrs[j + 1].Name) with
   | true => exact .inr ⟨_, rfl, rfl⟩
   | false =>
    left;refine ⟨((j + 1 + 1 : Nat) : Int), ?_, rfl, fun k h hk => ?_⟩
    ·rw [bc, w64 (by omega) (by omega)]; rfl
    ·rw [decide_eq_false_iff_not] at hc;by_cases hkj : k = j
     ·subst hkj; omega
     ·exact ha k h (by omega)) (by
  rintro _ rec ⟨rfl, ha⟩;refine ⟨.inl (), ?_, fun i h => ha i h h⟩;unfold A3
  rw [bg (by omega), bc]) (n := FUEL) (by unfold FUEL; omega)
 rw [e, ba]
 cases o with
 | inl u => exact ⟨_, rfl, fun _ => hR⟩
 | inr b => have hR : b = true := hR; subst hR; exact ⟨_, rfl, fun h => by cases h⟩

set_option linter.unusedSimpArgs false
set_option linter.unusedVariables false
set_option maxRecDepth 20000
theorem Gb (s u : List By8) (h : s.length <= 1049600) : ∃ b, L_Contains s u = some b := by
 unfold L_Contains;rw [if_pos (by omega)]; exact ⟨_, rfl⟩
theorem K6 (s : List By8) : ∃ b, L_TrimLeft s [32, 9, 10] = some b := by
 unfold L_TrimLeft;rw [if_pos ⟨by decide, by decide⟩]; exact ⟨_, rfl⟩
theorem Nz (s u : List By8) (h : s.length <= 1049600) : ∃ b, Bj s u = some b := by
 unfold Bj Bu;simp only [AA];by_cases hc : (u.length : Int) <= (s.length : Int)
 ·rw [bf hc, bb, w64 (by omega) (by omega)];rw [show ((s.length : Int) - (u.length : Int)) = ((s.length - u.length : Nat) : Int) by omega, FG (by omega)];exact ⟨_, rfl⟩
 ·rw [bg hc]; exact ⟨_, rfl⟩
theorem Jc (x : Aa) (h : szN x <= 1049600) : ∃ b, AY x = some b := by
 have hl := Br x;have hn := EO x;unfold AY;simp only [AA]
 obtain ⟨o, e⟩ := Nb (b := A4 x) (fun i s => s = (i : Int)) x.Kids.length (x0 := (0 : Int)) rfl (by
  rintro i _ rec hi rfl;unfold A4;simp only [AA];have e1 : IntKind.wrap .i64 ((i : Int) + 1) = ((i + 1 : Nat) : Int) := by rw [w64 (by omega) (by omega)]; rfl
  have e2 : IntKind.wrap .i64 ((i : Int) - 1) = (i : Int) - 1 := by rw [w64 (by omega) (by omega)]
  rw [bf (by omega), bb, Ao hi, ba, e1, e2]
  cases hc : ((decide ((0 : Int) < (i : Int))) && (x.Kids[i].Kind == (3 : Int))) with
  | false => exact .inl ⟨((i + 1 : Nat) : Int), rfl, rfl⟩
  | true =>
   have h0 : (0 : Int) < (i : Int) := of_decide_eq_true (Bool.and_eq_true_iff.1 hc).1;rw [bb, show (i : Int) - 1 = ((i - 1 : Nat) : Int) by omega, Ao (by omega : i - 1 < x.Kids.length), ba]
   cases (x.Kids[i - 1].Kind == (3 : Int)) with
   | true => exact .inr ⟨_, rfl⟩
   | false => exact .inl ⟨((i + 1 : Nat) : Int), rfl, rfl⟩) (by
  rintro _ rec rfl;unfold A4
  rw [bg (by omega)]; exact ⟨_, rfl⟩) (by omega)
 rw [e, ba]
 cases o with
 | inr b => exact ⟨_, rfl⟩
 | inl u =>
  cases (x.Kind == (3 : Int)) with
  | true => exact ⟨_, rfl⟩
  | false =>
   simp only [bc];obtain ⟨b1, h1⟩ := Gb x.Text [45, 45] (by omega);obtain ⟨b2, h2⟩ := Gb x.Text [13] (by omega);obtain ⟨b3, h3⟩ := Nz x.Text [45] (by omega);obtain ⟨b4, h4⟩ := Gb x.Text [63, 62] (by omega);obtain ⟨b5, h5⟩ := K6 x.Text;simp only [h1, h2, h3, h4, h5, ba];cases (x.Kind == (4 : Int)) <;> cases (x.Kind == (5 : Int)) <;> cases b1 <;> cases b2 <;> cases b3 <;> cases b4 <;> exact ⟨_, rfl⟩
structure GoodT (d : Aa) : Prop where
 el : ∀ x ∈ AD d, x.Kind ≠ 2 -> x.Attrs = []
 up : ∀ x ∈ AD d, RiseA x.Attrs
theorem NG (d : Aa) (h : szN d <= 1049600) : ∃ r, AX d = some r /\ (r = 0 -> GoodT d) := by
 have hl : (AD d).length <= 1049600 := Nat.le_trans (Fu d) h;have hs : ∀ x ∈ AD d, szN x <= 1049600 := fun x hx => Nat.le_trans (FA d x hx) h;have hodd : ∀ x ∈ AD d, ∃ b, CW x = some b := fun x hx => (MM x (hs x hx)).imp fun b h => h.1;have hgr := B8 (l := AD d) (f := CE) (by omega) fun x hx => NY x (hs x hx);have hmi := B8 (l := AD d) (f := A5) (by omega) fun x hx => Kj x (hs x hx);have hsp := B8 (l := AD d) (f := Bt) (by omega) fun x hx => Mi x (hs x hx);have hun' : ∀ x ∈ AD d, ∃ b, AW x = some b := fun x hx => (GO x (hs x hx)).imp fun b h => h.1;have hun := B8 (l := AD d) (f := AW) (by omega) hun';have hwt := B8 (l := AD d) (f := AY) (by omega) fun x hx => Jc x (hs x hx);have hoc := B8 (l := AD d) (f := CW) (by omega) hodd;obtain ⟨bd, hdp⟩ := R8 FUEL d 0 (by unfold FUEL; omega) h (by omega) (by omega);have hdp' : FD d 0 = some bd := hdp
 obtain ⟨rk, hrk⟩ := Nb (b := AL d) (fun i s => s.2 = (i : Int) /\ 0 <= s.1 /\ s.1 <= (i : Int)) d.Kids.length (x0 := ((0 : Int), (0 : Int))) ⟨rfl, by omega, by omega⟩ (by
  rintro i ⟨a, _⟩ rec hi ⟨rfl, h0, h1⟩;have := Br d;unfold AL;simp only [AA];rw [bf (by omega), bb, Ao hi, ba];left
  cases (d.Kids[i].Kind == (2 : Int)) with
  | true => exact ⟨(a + 1, ((i + 1 : Nat) : Int)), by rw [bb, w64 (by omega) (by omega), w64 (by omega) (by omega)]; rfl, rfl, by simp only; omega, by simp only; omega⟩
  | false => exact ⟨(a, ((i + 1 : Nat) : Int)), by rw [bc, w64 (by omega) (by omega)]; rfl, rfl, h0, by simp only; omega⟩) (by
  rintro ⟨a, _⟩ rec ⟨rfl, h0, h1⟩;unfold AL;dsimp only
  rw [bg (by omega)]; exact ⟨_, rfl⟩) (by have := Br d; omega)
 unfold AX;rw [IX d h, ba];simp only [AA, hgr, hmi, hsp, hun, hwt, hoc, hdp', hrk, ba];have non : ∀ {z : Int}, z ≠ 0 -> (z = 0 -> GoodT d) := fun h e => absurd e h
 cases (d.Kind != (1 : Int)) with
 | true => exact ⟨_, rfl, non (by decide)⟩
 | false =>
 rw [bc]
 cases ho : (AD d).any (gB CW) with
 | true => exact ⟨_, rfl, non (by decide)⟩
 | false =>
 rw [bc]
 cases bd with
 | true => exact ⟨_, rfl, non (by decide)⟩
 | false =>
 rw [bc];have rest : ∀ g : Bool, ∃ r, (cond g (some (5 : Int)) (cond ((AD d).any (gB A5)) (some 24) (cond ((AD d).any (gB Bt)) (some 21) (cond ((AD d).any (gB AW)) (some 34) (cond ((AD d).any (gB AY)) (some 32) (cond (rk != 1) (some 30) (some 0)))))) : Option Int) = some r /\ (r = 0 -> GoodT d) := by
  intro g
  cases g with
  | true => exact ⟨_, rfl, non (by decide)⟩
  | false =>
  cases (AD d).any (gB A5) with
  | true => exact ⟨_, rfl, non (by decide)⟩
  | false =>
  cases (AD d).any (gB Bt) with
  | true => exact ⟨_, rfl, non (by decide)⟩
  | false =>
  cases hu : (AD d).any (gB AW) with
  | true => exact ⟨_, rfl, non (by decide)⟩
  | false =>
  cases (AD d).any (gB AY) with
  | true => exact ⟨_, rfl, non (by decide)⟩
  | false =>
  cases (rk != 1) with
  | true => exact ⟨_, rfl, non (by decide)⟩
  | false =>
   refine ⟨_, rfl, fun _ => ⟨fun x hx => ?_, fun x hx => ?_⟩⟩
   ·obtain ⟨b, hb, hf⟩ := MM x (hs x hx);have := OC ho hx ⟨b, hb⟩;rw [hb] at this;exact hf (Option.some.inj this)
   ·obtain ⟨b, hb, hf⟩ := GO x (hs x hx);have := OC hu hx ⟨b, hb⟩;rw [hb] at this;exact hf (Option.some.inj this)
 cases (decide ((2000 : Int) < (IntKind.wrap .i64 (((AD d).length : Int) - (1 : Int))))) with
 | true => exact rest true
 | false => exact rest _
end Go.Proofs.YtjofelloaofooaaGreatDoor
