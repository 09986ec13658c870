/- Canon is awake. No condition. -/
import Derived.Lib.MapLaws
import Derived.Lib.TrimUEq
import Derived.Test.YtjofelloaofooaaGreatDoorPf
import Derived.Test.YtjofelloaofooaaGreatDoorPl1
namespace Go.Proofs.YtjofelloaofooaaGreatDoor
set_option maxRecDepth 100000
theorem Uz : C8 = some true := by kernel_rfl

set_option linter.unusedSimpArgs false
set_option linter.unusedVariables false
set_option maxRecDepth 20000
structure Cmp {α : Type} (f : α -> α -> Int) : Prop where
 rng : ∀ a b, f a b = -1 \/ f a b = 0 \/ f a b = 1
 anti : ∀ a b, f b a = - f a b
 trans : ∀ a b c, f a b <= 0 -> f b c <= 0 -> f a c <= 0
theorem Cmp.refl {α : Type} {f : α -> α -> Int} (h : Cmp f) (a : α) : f a a = 0 := by have := h.anti a a; omega
theorem Cmp.eqL {α : Type} {f : α -> α -> Int} (h : Cmp f) {a b : α} (c : α) (e : f a b = 0) : f b c = f a c := by
 have e' : f b a = 0 := by rw [h.anti a b, e]; rfl
 have h1 := h.trans a b c; have h2 := h.trans b a c;have h3 := h.trans c b a; have h4 := h.trans c a b;have a1 := h.anti a c; have a2 := h.anti b c;have r1 := h.rng a c; have r2 := h.rng b c;omega
theorem Cmp.eqR {α : Type} {f : α -> α -> Int} (h : Cmp f) {b c : α} (a : α) (e : f b c = 0) : f a b = f a c := by
 have := h.eqL a e;have a1 := h.anti a b; have a2 := h.anti a c;omega
def Qs (a b : Int) : Int := if a < b then -1 else if b < a then 1 else 0
theorem Sa : Cmp Qs := by
 refine ⟨fun a b => ?_, fun a b => ?_, fun a b c => ?_⟩ <;> unfold Qs <;> (repeat' split) <;> omega
def Ev : List By8 -> List By8 -> Int
 | [], [] => 0
 | [], _ :: _ => -1
 | _ :: _, [] => 1
 | a :: x, b :: y => if Qs a.toNat b.toNat ≠ 0 then Qs a.toNat b.toNat else Ev x y
theorem Dc : Cmp Ev := by
 have hI := Sa;refine ⟨fun a => ?_, fun a => ?_, fun a => ?_⟩
 ·induction a with
  | nil => intro b; cases b <;> simp [Ev]
  | cons x a ih =>
   intro b
   cases b with
   | nil => simp [Ev]
   | cons y b =>
    simp only [Ev];split
    ·exact hI.rng _ _
    ·exact ih b
 ·induction a with
  | nil => intro b; cases b <;> simp [Ev]
  | cons x a ih =>
   intro b
   cases b with
   | nil => simp [Ev]
   | cons y b =>
    simp only [Ev];have := hI.anti x.toNat y.toNat;have := ih b;split <;> split <;> omega
 ·induction a with
  | nil => intro b c h1 h2; cases b <;> cases c <;> simp_all [Ev]
  | cons x a ih =>
   intro b c h1 h2
   cases b with
   | nil => simp [Ev] at h1
   | cons y b =>
    cases c with
    | nil => simp [Ev] at h2
    | cons z c =>
     simp only [Ev] at h1 h2 ⊢;have t := hI.trans x.toNat y.toNat z.toNat;have l := fun e => hI.eqL (a := (x.toNat : Int)) (b := y.toNat) z.toNat e;have r := fun e => hI.eqR (b := (y.toNat : Int)) (c := z.toNat) x.toNat e;have an := hI.anti (x.toNat : Int) y.toNat;have l2 := fun e => hI.eqL (a := (x.toNat : Int)) (b := z.toNat) y.toNat e;have an2 := hI.anti (y.toNat : Int) z.toNat;have := ih b c;split at h1 <;> split at h2 <;> split <;> omega
theorem HS : ∀ a b : List By8, (if Op.bytesLess a b then (-1 : Int) else if !(Op.bytesLess a b || a == b) then 1 else 0) = Ev a b
 | [], [] => by simp [Op.bytesLess, Ev]
 | [], _ :: _ => by simp [Op.bytesLess, Ev]
 | _ :: _, [] => by simp [Op.bytesLess, Ev]
 | a :: x, b :: y => by
  have ih := HS x y;simp only [Op.bytesLess, Ev, Qs];rw [<- ih];by_cases h1 : a < b
  ·have : a.toNat < b.toNat := h1;have h3 : ((a.toNat : Int) < b.toNat) := by omega
   simp [h1, h3]
  ·by_cases h2 : a = b
   ·subst h2;simp [UInt8.lt_irrefl]
   ·have h4 : ¬ a.toNat < b.toNat := h1;have h5 : a.toNat ≠ b.toNat := fun e => h2 (UInt8.toNat_inj.1 e);have h6 : ¬ ((a.toNat : Int) < b.toNat) := by omega
    have h7 : ((b.toNat : Int) < a.toNat) := by omega
    simp [h1, h2, h6, h7]
def Aby : List Int -> List Int -> Int
 | a :: l, b :: m => if Qs a b ≠ 0 then Qs a b else Aby l m
 | _, _ => 0
def Abi : List Int -> List Int -> Int
 | [], [] => 0
 | [], _ :: _ => -1
 | _ :: _, [] => 1
 | a :: l, b :: m => if Qs a b ≠ 0 then Qs a b else Abi l m
theorem Pj {a b : Int} (h : Qs a b = 0) : a = b := by unfold Qs at h; (repeat' split at h) <;> omega
def Na (a b : Ad) : Int := if Ev a.URI b.URI ≠ 0 then Ev a.URI b.URI else Ev a.Local b.Local
def Aa0 (x y : Bool × Ad) : Int := if x.1 && y.1 then Na x.2 y.2 else if x.1 then 1 else if y.1 then -1 else 0
theorem Ts (a b : List By8) : BP a b = some (Ev a b) := by
 unfold BP Br;rw [<- HS];simp only [beq_self_eq_true, Bool.not_true, ba, bc];cases h1 : Op.bytesLess a b <;> cases h2 : (a == b) <;> rfl
theorem Zy (x y : Int) : EU [x, y] = some (if x ≠ 0 then x else y) := by
 have key : ∀ n, iter (Bk [x, y]) (n + 3) (0 : Int) = some (if x ≠ 0 then .inr x else if y ≠ 0 then .inr y else .inl ()) := fun n => by
  have a0 : ∀ r, Bk [x, y] r 0 = if x ≠ 0 then some (.inr x) else r 1 := fun r => by
   unfold Bk;by_cases h : x = 0
   ·subst h; rfl
   ·have : (x != 0) = true := by simpa using h
    simp [idx, h, this]
  have a1 : ∀ r, Bk [x, y] r 1 = if y ≠ 0 then some (.inr y) else r 2 := fun r => by
   unfold Bk;by_cases h : y = 0
   ·subst h; rfl
   ·have : (y != 0) = true := by simpa using h
    simp [idx, h, this]
  have a2 : ∀ r, Bk [x, y] r 2 = some (.inl ()) := fun r => rfl;show Bk [x, y] (iter _ (n + 2)) 0 = _;rw [a0];show (if x ≠ 0 then _ else Bk [x, y] (iter _ (n + 1)) 1) = _;rw [a1];show (if x ≠ 0 then _ else if y ≠ 0 then _ else Bk [x, y] (iter _ n) 2) = _;rw [a2];by_cases h : x = 0
  ·by_cases h2 : y = 0 <;> simp [h, h2]
  ·simp [h]
 unfold EU;simp only [AA];rw [show FUEL = 18446744073709551613 + 3 from rfl, key];by_cases h : x = 0
 ·by_cases h2 : y = 0 <;> simp [h, h2]
 ·simp [h]
theorem P1 (a b : Ad) : ET a b = some (Na a b) := by
 unfold ET;rw [Ts, Ts, ba, ba, Zy, ba]; rfl
theorem T7 {α : Type} {l : List α} {i : Nat} (h : i < l.length) : l.drop i = l[i] :: l.drop (i + 1) := List.drop_eq_getElem_cons h
theorem R4 {α : Type} {l : List α} {n : Nat} (h : n <= l.length) : slc l (0 : Int) (n : Int) = some (l.take n) := by
 unfold slc; rw [if_pos (by omega)]; simp
theorem C4 {σ ρ : Type} (b : (σ -> Option ρ) -> σ -> Option ρ) (n : Nat) (x : σ) : iter b (n + 1) x = b (iter b n) x := rfl
theorem F9 {α : Type} {l : List α} {n : Nat} (h : n <= l.length) : slc l (n : Int) (l.length : Int) = some (l.drop n) := by
 unfold slc; rw [if_pos (by omega)]; simp only [Int.toNat_natCast]; rw [List.take_of_length_le (by simp)]
theorem NU {σ ρ : Type} {b : (σ -> Option ρ) -> σ -> Option ρ} (I : Nat -> σ -> Prop) (N : Nat) {x0 : σ} (h0 : I 0 x0)
  (hs : ∀ i x rec, i < N -> I i x -> (∃ y, b rec x = rec y /\ I (i + 1) y) \/ ∃ o, b rec x = some o) (he : ∀ x rec, I N x -> ∃ o, b rec x = some o) (hN : N <= 1073741824) : ∃ o, iter b FUEL x0 = some o := by
 obtain ⟨o, e, _⟩ := AB (b := b) I (fun _ => True) N (x0 := x0) h0 (fun i x rec hi hx => (hs i x rec hi hx).imp id fun ⟨o, e⟩ => ⟨o, e, trivial⟩) (fun x rec hx => (he x rec hx).imp fun o e => ⟨e, trivial⟩) (n := FUEL) (by unfold FUEL; omega);exact ⟨o, e⟩

set_option linter.unusedSimpArgs false
set_option linter.unusedVariables false
set_option maxRecDepth 20000
open Go.Lib (decodeL decodeN)
theorem OW (n b0 b1 b2 b3 : Nat) : (b0 < 128 -> decodeN n b0 b1 b2 b3 = (b0, 1)) /\ (2 <= (decodeN n b0 b1 b2 b3).2 -> 128 <= b1) /\ (3 <= (decodeN n b0 b1 b2 b3).2 -> 128 <= b2) /\ (4 <= (decodeN n b0 b1 b2 b3).2 -> 128 <= b3) /\ (decodeN n b0 b1 b2 b3).2 <= 4 := by
 unfold decodeN
 repeat' split
 all_goals refine ⟨fun h => ?_, fun h => ?_, fun h => ?_, fun h => ?_, ?_⟩
 all_goals first | rfl | omega | (simp only at *; omega)
theorem Lv (p : List By8) (x k : Nat) : (p.drop x).getD k 0 = p.getD (x + k) 0 := by simp [List.getD, List.getElem?_drop]
theorem DN (p : List By8) (x : Nat) (hx : x < p.length) : 1 <= (decodeL (p.drop x)).2 /\ x + (decodeL (p.drop x)).2 <= p.length /\ ((p.getD x 0).toNat < 128 -> decodeL (p.drop x) = ((p.getD x 0).toNat, 1)) /\ ∀ k, 1 <= k -> k < (decodeL (p.drop x)).2 -> 128 <= (p.getD (x + k) 0).toNat := by
 have hne : p.drop x ≠ [] := by intro h; have := congrArg List.length h; simp at this; omega
 have h1 := Lib.decodeL_width (p.drop x);have h2 := Lib.decodeL_le (p.drop x) hne;have e := Lib.decodeL_N (p.drop x);simp only [Lv] at e;have f := OW (p.drop x).length (p.getD (x + 0) 0).toNat (p.getD (x + 1) 0).toNat (p.getD (x + 2) 0).toNat (p.getD (x + 3) 0).toNat;rw [<- e] at f;obtain ⟨f0, f1, f2, f3, f4⟩ := f;rw [List.length_drop] at h2;refine ⟨h1, by omega, fun h => f0 h, fun k hk1 hk2 => ?_⟩
 match k, hk1, hk2 with
 | 1, _, hk => exact f1 (by omega)
 | 2, _, hk => exact f2 (by omega)
 | 3, _, hk => exact f3 (by omega)
 | k + 4, _, hk => omega
theorem Nm (p : List By8) (x : Nat) : (rnS p x = ((decodeL (p.drop x)).1 : Int)) /\ wdS p x = (decodeL (p.drop x)).2 := by
 have := Lib.decodeL_drop ⟨p.toArray⟩ x;simp only at this;unfold rnS wdS;rw [<- this];exact ⟨rfl, rfl⟩
theorem Va (r : Int) (l : List Af) (hl : l.length <= 9223372036854775807) : ∃ b, DL r l = some b := by
 unfold DL;simp only [AA];obtain ⟨o, h1, _⟩ := AB (b := Dk r l) (fun i x => x = (i : Int)) (fun _ => True) l.length (x0 := (0 : Int)) rfl
  (fun i x rec hi hx => by
   subst hx;unfold Dk;rw [bf (by omega), bb, Aq hi, ba, w64 (by omega) (by omega)];cases decide (r <= l[i].hi)
   ·exact .inl ⟨_, rfl, rfl⟩
   ·exact .inr ⟨_, rfl, trivial⟩)
  (fun x rec hx => ⟨_, by
   subst hx;unfold Dk
   rw [bg (by omega), bc], trivial⟩) (n := FUEL) (by unfold FUEL; omega)
 rw [h1, ba];cases o <;> exact ⟨_, rfl⟩
theorem MN {γ : Type} (r : Int) (k : Bool -> Option γ) (hk : ∀ b, ∃ c, k b = some c) (l : List Af) (hl : l.length <= 9223372036854775807) : ∃ c, (DL r l).bind k = some c := by
 obtain ⟨b, hb⟩ := Va r l hl;rw [hb]; exact hk b
theorem Ih (r : Int) : ∃ b, Cz r = some b := by
 unfold Cz;cases decide (r < (128 : Int))
 ·rw [bc];exact MN r _ (fun b => ⟨_, rfl⟩) _ (by decide)
 ·exact ⟨_, rfl⟩
theorem MB (r : Int) : ∃ b, C3 r = some b := by
 unfold C3;obtain ⟨b, hb⟩ := Ih r;rw [hb, ba];simp only [AA];generalize ((((b || (r == (45 : Int))) || (r == (46 : Int))) || ((decide ((48 : Int) <= r)) && (decide (r <= (57 : Int))))) || (r == (183 : Int))) = c;cases c
 ·rw [bc];exact MN r _ (fun b => ⟨_, rfl⟩) _ (by decide)
 ·exact ⟨_, rfl⟩
theorem MR (r : Int) : ∃ b, Dn r = some b := by
 unfold Dn;simp only [AA];generalize (((r == (9 : Int)) || (r == (10 : Int))) || (r == (13 : Int))) = c;cases c
 ·rw [bc];exact MN r _ (fun b => ⟨_, rfl⟩) _ (by decide)
 ·exact ⟨_, rfl⟩
theorem Up : C3 123 = some false := by kernel_rfl
theorem Ls (p : List By8) : ∃ b, DM p = some b /\ (b = true -> p.length <= 100 /\ ∀ c ∈ p, c.toNat ≠ 123) := by
 unfold DM;simp only [AA];by_cases hbad : ((p == ([] : List By8)) || decide ((100 : Int) < (p.length : Int))) = true
 ·rw [hbad]; exact ⟨false, rfl, fun h => by cases h⟩
 have hb' : ((p == ([] : List By8)) || decide ((100 : Int) < (p.length : Int))) = false := by simpa using hbad
 have hlen : p.length <= 100 := by
  have h := (Bool.or_eq_false_iff.1 hb').2;have := of_decide_eq_false h;omega
 rw [hb', bc];have hv : L_ValidString p = some (Lib.validD p) := by unfold L_ValidString; rw [if_pos (by omega)]
 rw [hv, ba];cases Lib.validD p
 ·exact ⟨false, rfl, fun h => by cases h⟩
 simp only [Bool.not_true, bc];obtain ⟨o, h1, h2⟩ := AB (b := B9 p) (fun i x => i <= x /\ x <= p.length /\ ∀ k, k < x -> (p.getD k 0).toNat ≠ 123) (fun o => match o with | .inl _ => ∀ k, k < p.length -> (p.getD k 0).toNat ≠ 123 | .inr b => b = false) p.length (x0 := (0 : Nat)) ⟨Nat.le_refl _, Nat.zero_le _, fun k hk => by omega⟩
  (fun i x rec hi ⟨hx1, hx2, hx3⟩ => by
   by_cases hxl : x < p.length
   ·obtain ⟨d1, d2, d3, d4⟩ := DN p x hxl;obtain ⟨e1, e2⟩ := Nm p x;obtain ⟨bs, hs⟩ := Ih (rnS p x);obtain ⟨bp, hp⟩ := MB (rnS p x);unfold B9;simp only [AA];rw [bf hxl, bb, hs, hp];simp only [ba];cases bp
    ·refine .inr ⟨.inr false, ?_, rfl⟩;simp only [Bool.not_false, bb];generalize (((x : Nat) : Int) == (0 : Int)) = c;cases c <;> cases bs <;> rfl
    ·have next : (x + wdS p x) <= p.length /\ ∀ k, k < x + wdS p x -> (p.getD k 0).toNat ≠ 123 := by
      rw [e2];refine ⟨d2, fun k hk => ?_⟩;by_cases hkx : k < x
      ·exact hx3 k hkx
      ·by_cases hk0 : k = x
       ·subst hk0;intro h123;have := d3 (by omega);rw [this] at e1;simp only [h123] at e1;rw [e1] at hp;have := Up.symm.trans hp;cases this
       ·have := d4 (k - x) (by omega) (by omega);rw [show x + (k - x) = k by omega] at this;omega
     have hres : ∀ c : Bool, (cond c (cond (!bs) (cond true (some (.inr false)) (rec (x + wdS p x))) (cond (!true) (some (.inr false)) (rec (x + wdS p x)))) (cond false (cond true (some (.inr false)) (rec (x + wdS p x))) (cond (!true) (some (.inr false)) (rec (x + wdS p x)))) : Option (Unit ⊕ Bool)) = rec (x + wdS p x) \/ (cond c (cond (!bs) (cond true (some (.inr false)) (rec (x + wdS p x))) (cond (!true) (some (.inr false)) (rec (x + wdS p x)))) (cond false (cond true (some (.inr false)) (rec (x + wdS p x))) (cond (!true) (some (.inr false)) (rec (x + wdS p x)))) : Option (Unit ⊕ Bool)) = some (.inr false) := by
      intro c; cases c <;> cases bs <;> first | exact .inl rfl | exact .inr rfl
     rcases hres (((x : Nat) : Int) == (0 : Int)) with h | h
     ·exact .inl ⟨x + wdS p x, h, by rw [e2]; omega, next.1, next.2⟩
     ·exact .inr ⟨.inr false, h, rfl⟩
   ·refine .inr ⟨.inl (), ?_, fun k hk => hx3 k (by omega)⟩;unfold B9
    rw [bg hxl, bc])
  (fun x rec ⟨hx1, hx2, hx3⟩ => ⟨.inl (), by
   unfold B9
   rw [bg (by omega), bc], fun k hk => hx3 k (by omega)⟩) (n := FUEL) (by unfold FUEL; omega)
 rw [h1, ba]
 cases o with
 | inl u =>
  refine ⟨true, rfl, fun _ => ⟨hlen, fun c hc => ?_⟩⟩;obtain ⟨k, hk, e⟩ := List.getElem_of_mem hc;have := h2 k hk;simpa [List.getD, hk, e] using this
 | inr b =>
  simp only at h2;subst h2;exact ⟨false, rfl, fun h => by cases h⟩
theorem PG (p : List By8) (x : Nat) (hx : x < p.length) (hl : p.length <= 1073741824) : ∃ r, Eo p (x : Int) = some r /\ (r.2.2 = 0 -> r.2.1 = ((x + (decodeL (p.drop x)).2 : Nat) : Int)) := by
 obtain ⟨d1, d2, d3, d4⟩ := DN p x hx;unfold Eo;rw [bg (by omega), bg (by omega)];simp only [Bool.or_self, bc];have hs : slc p (x : Int) (p.length : Int) = some (p.drop x) := by
  unfold slc; rw [if_pos (by omega)]; simp only [Int.toNat_natCast]; rw [List.take_of_length_le (by simp)]
 rw [hs, ba];have hne : p.drop x ≠ [] := by intro h; have := congrArg List.length h; simp at this; omega
 have hd : L_DecodeRune (p.drop x) = some (((decodeL (p.drop x)).1 : Int), ((decodeL (p.drop x)).2 : Int)) := by
  unfold L_DecodeRune Lib.decodeGo
  rw [if_neg hne, if_neg (by
   show ¬ ((p.drop x).toArray.size = 0)
   simp; omega)]
  rfl
 rw [hd, ba];obtain ⟨b, hb⟩ := MR ((decodeL (p.drop x)).1 : Int);simp only;cases ((((decodeL (p.drop x)).1 : Int) == (65533 : Int)) && decide (((decodeL (p.drop x)).2 : Int) < (3 : Int)))
 ·rw [bc, hb, ba];cases b
  ·exact ⟨_, rfl, fun h => by simp at h⟩
  ·refine ⟨_, rfl, fun _ => ?_⟩;simp only;rw [w64 (by omega) (by omega)]; omega
 ·exact ⟨_, rfl, fun h => by simp at h⟩
theorem Ib (p : List By8) (hl : p.length <= 1073741824) : ∃ r, Dl p = some r := by
 unfold Dl;simp only [AA];obtain ⟨o, h1, _⟩ := AB (b := CD p) (fun i x => ∃ j : Nat, x = (j : Int) /\ i <= j /\ j <= p.length) (fun _ => True) p.length (x0 := (0 : Int)) ⟨0, rfl, Nat.le_refl _, Nat.zero_le _⟩
  (fun i x rec hi ⟨j, hx, hj1, hj2⟩ => by
   subst hx;unfold CD;by_cases hjl : j < p.length
   ·obtain ⟨r, hr, hn⟩ := PG p j hjl hl;obtain ⟨d1, d2, d3, d4⟩ := DN p j hjl;rw [bf (by omega), bb, hr, ba];by_cases e : r.2.2 = 0
    ·rw [show (r.2.2 != (0 : Int)) = false by simpa using e, bc];exact .inl ⟨_, rfl, _, hn e, by omega, d2⟩
    ·rw [show (r.2.2 != (0 : Int)) = true by simpa using e, bb];exact .inr ⟨_, rfl, trivial⟩
   ·rw [bg (by omega), bc]
    exact .inr ⟨_, rfl, trivial⟩)
  (fun x rec ⟨j, hx, hj1, hj2⟩ => ⟨_, by
   subst hx;unfold CD
   rw [bg (by omega), bc], trivial⟩) (n := FUEL) (by unfold FUEL; omega)
 rw [h1, ba];cases o <;> exact ⟨_, rfl⟩

set_option linter.unusedSimpArgs false
set_option linter.unusedVariables false
set_option maxRecDepth 20000
open Go.Lib (decodeL decodeN)
theorem IH {σ ρ : Type} {b : (σ -> Option ρ) -> σ -> Option ρ} (μ : σ -> Nat) (I : σ -> Prop) (R : ρ -> Prop)
  (step : ∀ x, I x -> (∃ y, (∀ rec, b rec x = rec y) /\ I y /\ μ y < μ x) \/ (∃ o, (∀ rec, b rec x = some o) /\ R o)) :
  ∀ (n : Nat) (x : σ), I x -> μ x < n -> ∃ o, iter b n x = some o /\ R o
 | 0, x, _, h => by omega
 | n + 1, x, hI, h1 => by
  rcases step x hI with ⟨y, e1, hI', hm⟩ | ⟨o, e1, hR⟩
  ·obtain ⟨o, g1, hR⟩ := IH μ I R step n y hI' (by omega);exact ⟨o, by show b (iter b n) x = _; rw [e1, g1], hR⟩
  ·exact ⟨o, e1 _, hR⟩
theorem Xb (p0 p1 : List By8) (h0 : p0.length <= 1073741824) (h1 : p1.length <= 1073741824) : ∃ o, iter (Aw p0 p1) FUEL (0 : Int) = some o /\
  (∀ a, o = .inr (.inl a) -> ∃ (i : Nat) (g0 : i < p0.length) (g1 : i < p1.length), a = (i : Int) /\ (128 : Int) <= ior .u8 (p0[i].toNat : Int) (p1[i].toNat : Int)) := by
 refine IH (b := Aw p0 p1) (fun x => p0.length - x.toNat) (fun x => ∃ i : Nat, x = (i : Int) /\ i <= p0.length) _ ?_ FUEL (0 : Int) ⟨0, rfl, Nat.zero_le _⟩ (by unfold FUEL; omega);rintro _ ⟨i, rfl, hi⟩;by_cases hlt : i < p0.length /\ i < p1.length
 ·obtain ⟨g0, g1⟩ := hlt;have hmin : decide ((i : Int) < (if (p1.length : Int) < (p0.length : Int) then (p1.length : Int) else (p0.length : Int))) = true := by
   apply bf; split <;> omega
  have hb : ∀ rec, Aw p0 p1 rec (i : Int) = cond (decide ((128 : Int) <= (ior .u8 (p0[i].toNat : Int) (p1[i].toNat : Int))))
    (some (.inr (.inl (i : Int)))) (cond ((p1[i].toNat : Int) == (p0[i].toNat : Int)) (rec ((i + 1 : Nat) : Int))
     (cond (decide ((p1[i].toNat : Int) < (p0[i].toNat : Int)))
      (cond (((decide ((65 : Int) <= (p1[i].toNat : Int))) && (decide ((p1[i].toNat : Int) <= (90 : Int)))) && ((p0[i].toNat : Int) == (IntKind.wrap .u8 ((IntKind.wrap .u8 ((p1[i].toNat : Int) + (97 : Int))) - (65 : Int))))) (rec ((i + 1 : Nat) : Int)) (some (.inr (.inr false))))
      (cond (((decide ((65 : Int) <= (p0[i].toNat : Int))) && (decide ((p0[i].toNat : Int) <= (90 : Int)))) && ((p1[i].toNat : Int) == (IntKind.wrap .u8 ((IntKind.wrap .u8 ((p0[i].toNat : Int) + (97 : Int))) - (65 : Int))))) (rec ((i + 1 : Nat) : Int)) (some (.inr (.inr false)))))) := by
   intro rec;unfold Aw;simp only [AA];rw [hmin, bb, Aq g0, ba, Aq g1, ba, w64 (by omega) (by omega)];rfl
  have go : ∃ y : Int, y = ((i + 1 : Nat) : Int) /\ (∃ i : Nat, y = (i : Int) /\ i <= p0.length) /\ p0.length - y.toNat < p0.length - ((i : Nat) : Int).toNat := ⟨_, rfl, ⟨_, rfl, g0⟩, by omega⟩
  obtain ⟨y, hy, hI, hm⟩ := go
  cases c1 : decide ((128 : Int) <= (ior .u8 (p0[i].toNat : Int) (p1[i].toNat : Int))) with
  | true =>
   right
   exact ⟨.inr (.inl (i : Int)), fun rec => by rw [hb, c1, bb], fun a ha => by
    injection ha with ha; injection ha with ha
    exact ⟨i, g0, g1, ha.symm, of_decide_eq_true c1⟩⟩
  | false =>
   have fin : ∀ o : Unit ⊕ Int ⊕ Bool, o = .inr (.inr false) -> ∀ a, o = .inr (.inl a) -> ∃ (i : Nat) (g0 : i < p0.length) (g1 : i < p1.length), a = (i : Int) /\ (128 : Int) <= ior .u8 (p0[i].toNat : Int) (p1[i].toNat : Int) := by
    rintro o rfl a ha; cases ha
   cases c2 : ((p1[i].toNat : Int) == (p0[i].toNat : Int)) with
   | true => exact .inl ⟨y, fun rec => by rw [hb, c1, bc, c2, bb, hy], hI, hm⟩
   | false =>
    cases c3 : decide ((p1[i].toNat : Int) < (p0[i].toNat : Int)) with
    | true =>
     cases c4 : (((decide ((65 : Int) <= (p1[i].toNat : Int))) && (decide ((p1[i].toNat : Int) <= (90 : Int)))) && ((p0[i].toNat : Int) == (IntKind.wrap .u8 ((IntKind.wrap .u8 ((p1[i].toNat : Int) + (97 : Int))) - (65 : Int))))) with
     | true => exact .inl ⟨y, fun rec => by rw [hb, c1, bc, c2, bc, c3, bb, c4, bb, hy], hI, hm⟩
     | false => exact .inr ⟨_, fun rec => by rw [hb, c1, bc, c2, bc, c3, bb, c4, bc], fin _ rfl⟩
    | false =>
     cases c4 : (((decide ((65 : Int) <= (p0[i].toNat : Int))) && (decide ((p0[i].toNat : Int) <= (90 : Int)))) && ((p1[i].toNat : Int) == (IntKind.wrap .u8 ((IntKind.wrap .u8 ((p0[i].toNat : Int) + (97 : Int))) - (65 : Int))))) with
     | true => exact .inl ⟨y, fun rec => by rw [hb, c1, bc, c2, bc, c3, bc, c4, bb, hy], hI, hm⟩
     | false => exact .inr ⟨_, fun rec => by rw [hb, c1, bc, c2, bc, c3, bc, c4, bc], fin _ rfl⟩
 ·right;have hmin : decide ((i : Int) < (if (p1.length : Int) < (p0.length : Int) then (p1.length : Int) else (p0.length : Int))) = false := by
   apply bg; split <;> omega
  exact ⟨.inl (), fun rec => by unfold Aw; rw [hmin, bc], fun a ha => by cases ha⟩
theorem SI (c rn : Int) (hc : c = 120 \/ c = 109 \/ c = 108) (hr : 128 <= rn) : iter (A5 c rn) FUEL (c - 32) = some c := by
 obtain ⟨m, hm⟩ : ∃ m, FUEL = m + 1 + 1 := ⟨FUEL - 2, by unfold FUEL; rfl⟩
 rw [hm, C4];unfold A5;have h1 : ((c - 32 != c) && decide (c - 32 < rn)) = true := by simp; omega
 rw [h1, bb];have h2 : L_SimpleFold (c - 32) = some c := by
  rcases hc with rfl | rfl | rfl <;> rfl
 rw [h2, ba];show iter (A5 c rn) (m + 1) c = some c;rw [C4];unfold A5;have h3 : ((c != c) && decide (c < rn)) = false := by simp
 rw [h3, bc]
def Vu (l : List By8) : Prop := l = [120, 109, 108] \/ l = [109, 108] \/ l = [108] \/ l = []
theorem Xl (s : List By8) (hs : s.length <= 1073741824) (l : List By8) (hl : Vu l) : ∃ o, iter (Av s) FUEL (l, (0 : Nat)) = some o /\ True := by
 refine IH (b := Av s) (fun x => s.length - x.2) (fun x => Vu x.1) _ ?_ FUEL (l, (0 : Nat)) hl (by unfold FUEL; dsimp only; omega);rintro ⟨a, p⟩ hx;dsimp only at hx ⊢;by_cases hp : p < s.length
 ·obtain ⟨r1, r2⟩ := Nm s p;obtain ⟨d1, d2, _⟩ := DN s p hp;have hw : s.length - (p + wdS s p) < s.length - p := by rw [r2]; omega
  have core : ∀ (c : By8) (t : List By8), a = c :: t -> ((c.toNat : Int) = 120 \/ (c.toNat : Int) = 109 \/ (c.toNat : Int) = 108) -> L_DecodeRuneInString a = some ((c.toNat : Int), 1) -> Vu t ->
    (∃ y : List By8 × Nat, (∀ rec, Av s rec (a, p) = rec y) /\ Vu y.1 /\ s.length - y.2 < s.length - p) \/ (∃ o, (∀ rec, Av s rec (a, p) = some o) /\ True) := by
   intro c t ha hc hd ht;have hsl : slc a (1 : Int) (a.length : Int) = some t := by rw [NX (by rw [ha]; simp), ha]; rfl
   generalize hrn : rnS s p = rn at *
   have hb : ∀ rec, Av s rec (a, p) = cond ((c.toNat : Int) == rn) (rec (t, p + wdS s p)) (cond (decide ((c.toNat : Int) < rn))
     (cond (decide (rn < (128 : Int))) (cond (((decide ((65 : Int) <= (c.toNat : Int))) && (decide ((c.toNat : Int) <= (90 : Int)))) && (rn == (IntKind.wrap .i32 ((IntKind.wrap .i32 ((c.toNat : Int) + (97 : Int))) - (65 : Int))))) (rec (t, p + wdS s p)) (some (.inr false)))
      ((L_SimpleFold (c.toNat : Int)).bind fun x102 => (iter (A5 (c.toNat : Int) rn) FUEL x102).bind fun o => cond (o == rn) (rec (t, p + wdS s p)) (some (.inr false))))
     (cond (decide ((c.toNat : Int) < (128 : Int))) (cond (((decide ((65 : Int) <= rn)) && (decide (rn <= (90 : Int)))) && ((c.toNat : Int) == (IntKind.wrap .i32 ((IntKind.wrap .i32 (rn + (97 : Int))) - (65 : Int))))) (rec (t, p + wdS s p)) (some (.inr false)))
      ((L_SimpleFold rn).bind fun x102 => (iter (A5 rn (c.toNat : Int)) FUEL x102).bind fun o => cond (o == (c.toNat : Int)) (rec (t, p + wdS s p)) (some (.inr false))))) := by
    intro rec;unfold Av;simp only [AA];rw [bf hp, bb, show ((a.length : Int) == 0) = false by rw [ha]; simp; omega, bc, hd, ba];dsimp only;rw [hsl, ba, hrn]
   have two : ∀ k : Bool, (∃ y : List By8 × Nat, (∀ rec : List By8 × Nat -> Option ((List By8) ⊕ Bool), cond k (rec (t, p + wdS s p)) (some (.inr false)) = rec y) /\ Vu y.1 /\ s.length - y.2 < s.length - p) \/ (∃ o, (∀ rec : List By8 × Nat -> Option ((List By8) ⊕ Bool), cond k (rec (t, p + wdS s p)) (some (.inr false)) = some o) /\ True) := by
    intro k
    cases k with
    | true => exact .inl ⟨(t, p + wdS s p), fun _ => rfl, ht, hw⟩
    | false => exact .inr ⟨_, fun _ => rfl, trivial⟩
   simp only [hb]
   cases ((c.toNat : Int) == rn) with
   | true => exact .inl ⟨(t, p + wdS s p), fun _ => rfl, ht, hw⟩
   | false =>
    simp only [bc];by_cases c3 : (c.toNat : Int) < rn
    ·rw [bf c3];simp only [bb];by_cases c4 : rn < 128
     ·rw [bf c4];simp only [bb];exact two _
     ·rw [bg c4];have hf : L_SimpleFold (c.toNat : Int) = some ((c.toNat : Int) - 32) := by rcases hc with h | h | h <;> rw [h] <;> rfl
      simp only [bc, hf, ba, SI _ rn hc (by omega)];exact two _
    ·rw [bg c3, bf (show (c.toNat : Int) < 128 by omega)];simp only [bc, bb];exact two _
  rcases hx with h | h | h | h
  ·exact core 120 [109, 108] h (.inl rfl) (by rw [h]; rfl) (.inr (.inl rfl))
  ·exact core 109 [108] h (.inr (.inl rfl)) (by rw [h]; rfl) (.inr (.inr (.inl rfl)))
  ·exact core 108 [] h (.inr (.inr rfl)) (by rw [h]; rfl) (.inr (.inr (.inr rfl)))
  ·right;refine ⟨.inr false, fun rec => ?_, trivial⟩;unfold Av;dsimp only;rw [bf hp, bb, h]; rfl
 ·right;refine ⟨.inl a, fun rec => ?_, trivial⟩;unfold Av;dsimp only;rw [bg hp, bc]
theorem Uk (w : List By8) (hw : w.length <= 1073741824) : ∃ r, BB w [120, 109, 108] = some r := by
 obtain ⟨o, e1, e2⟩ := Xb w [120, 109, 108] hw (by simp);unfold BB;simp only [AA];rw [e1, ba]
 match o, e2 with
 | .inl _, _ => exact ⟨_, rfl⟩
 | .inr (.inr r), _ => exact ⟨_, rfl⟩
 | .inr (.inl a), e2 =>
  obtain ⟨i, g0, g1, rfl, _⟩ := e2 a rfl;have hx : Vu (([120, 109, 108] : List By8).drop i) := by
   match i, g1 with
   | 0, _ => exact .inl rfl
   | 1, _ => exact .inr (.inl rfl)
   | 2, _ => exact .inr (.inr (.inl rfl))
  dsimp only;rw [F9 (Nat.le_of_lt g0), ba, F9 (Nat.le_of_lt g1), ba];obtain ⟨o2, f1, _⟩ := Xl (w.drop i) (by rw [List.length_drop]; omega) _ hx;rw [f1, ba]
  cases o2 with
  | inl q => exact ⟨_, rfl⟩
  | inr q => exact ⟨_, rfl⟩

set_option linter.unusedSimpArgs false
set_option linter.unusedVariables false
set_option maxRecDepth 20000
/- A node's size: how many values and letters it holds. -/
mutual
def Ax : Aa -> Nat
 | ⟨Kind, Name, Attrs, Kids, Text⟩ => (1 + ((((Name.URI.length + 1) + ((Name.Local.length + 1) + 0)) + 1) + (((List.map (fun x : Ae => ((((x.Name.URI.length + 1) + ((x.Name.Local.length + 1) + 0)) + 1) + ((x.Value.length + 1) + 0)) + 1) Attrs).sum + 1) + ((FD Kids + 1) + ((Text.length + 1) + 0))))) + 1
def FD : List Aa -> Nat
 | [] => 0
 | x :: l => Ax x + FD l
end
theorem HU : ∀ l : List Aa, FD l = (l.map Ax).sum
 | [] => by simp [FD]
 | x :: l => by simp [FD, HU l]
abbrev szN := Ax
theorem Ko {α : Type} (f : α -> Nat) (hf : ∀ x, 1 <= f x) : ∀ l : List α, l.length <= (l.map f).sum
 | [] => by simp
 | x :: l => by have := Ko f hf l; have := hf x; simp only [bi, List.map_cons, List.sum_cons]; omega
theorem Lb (x : Aa) : 1 <= szN x := by cases x; simp only [szN, Ax]; omega
theorem D9 (x : Aa) : FD x.Kids < szN x := by cases x; simp only [szN, Ax]; omega
theorem G5 {l : List Aa} {y : Aa} (h : y ∈ l) : szN y <= FD l := by
 induction l with
 | nil => cases h
 | cons x l ih =>
  simp only [FD]
  cases h with
  | head => show szN y <= Ax y + _; exact Nat.le_add_right _ _
  | tail _ h => have := ih h; omega
theorem GH {x y : Aa} (h : y ∈ x.Kids) : szN y < szN x := Nat.lt_of_le_of_lt (G5 h) (D9 x)
theorem BI (x : Aa) : x.Kids.length <= szN x := by
 have h1 := D9 x;have h2 := Ko szN Lb x.Kids;rw [HU] at h1;have : (List.map szN x.Kids).sum = (List.map Ax x.Kids).sum := rfl;omega
theorem Ct (x : Aa) : x.Attrs.length <= szN x := by
 cases x with
 | mk K N A Ks T =>
  have h := Ko (fun x : Ae => ((((x.Name.URI.length + 1) + ((x.Name.Local.length + 1) + 0)) + 1) + ((x.Value.length + 1) + 0)) + 1) (fun x => by omega) A;simp only [szN, Ax];omega
/- The text below a node. -/
def gT (k : Aa) : List By8 := if k.Kind = 3 then k.Text else []
mutual
def V2 : Aa -> List By8
 | ⟨_, _, _, Kids, _⟩ => Te Kids
def Te : List Aa -> List By8
 | [] => []
 | k :: l => (gT k ++ V2 k) ++ Te l
end
theorem EP {a b : List By8} (h : a.length + b.length <= 9223372036854775807) : cat a b = some (a ++ b) := by unfold cat; rw [if_pos h]
/- All nodes, the whole first. -/
mutual
def AE : Aa -> List Aa
 | ⟨K, N, A, Kids, T⟩ => ⟨K, N, A, Kids, T⟩ :: BJ Kids
def BJ : List Aa -> List Aa
 | [] => []
 | k :: l => AE k ++ BJ l
end
theorem Bn (x : Aa) : AE x = x :: BJ x.Kids := by cases x; simp only [AE]
theorem DP : ∀ l m : List Aa, BJ (l ++ m) = BJ l ++ BJ m
 | [], m => by simp [BJ]
 | k :: l, m => by simp [BJ, DP l m]
theorem H4 {l : List Aa} {i : Nat} (h : i < l.length) : BJ (l.take (i + 1)) = BJ (l.take i) ++ AE l[i] := by
 rw [List.take_add_one, List.getElem?_eq_getElem h, DP]; simp [BJ]
mutual
theorem FX : ∀ x : Aa, (AE x).length <= szN x
 | ⟨K, N, A, Kids, T⟩ => by
  have h1 := GK Kids;have h2 := D9 ⟨K, N, A, Kids, T⟩;simp only [AE, bi];simp only at h2;omega
theorem GK : ∀ l : List Aa, (BJ l).length <= FD l
 | [] => by simp [BJ]
 | k :: l => by
  have h1 := FX k;have h2 := GK l;simp only [BJ, FD, bm];have : szN k = Ax k := rfl;omega
end
theorem Hi (l : List Aa) (i : Nat) : (BJ (l.take i)).length <= (BJ l).length := by
 have := DP (l.take i) (l.drop i);rw [List.take_append_drop] at this;rw [this]; simp
def atP : Aa -> List Int -> Option Aa
 | x, [] => some x
 | x, s :: r => if s < 0 \/ (x.Kids.length : Int) <= s then none else (x.Kids[s.toNat]?).bind fun y => atP y r
def YE : Aa := ⟨0, ⟨[], []⟩, [], [], []⟩
def Zw (K : Int) (nm : Ad) : List Ae -> Option (List By8)
 | [] => none
 | a :: l => if (K == (2 : Int)) && ((a.Name.URI == nm.URI) && ((a.Name.Local == nm.Local) && true)) then some a.Value else Zw K nm l

set_option linter.unusedSimpArgs false
set_option linter.unusedVariables false
set_option maxRecDepth 20000
def gB {α : Type} (f : α -> Option Bool) (x : α) : Bool := (f x).getD false
theorem NQ {α : Type} {l : List α} {p : α -> Bool} {i : Nat} (hi : i < l.length) : (l.drop i).any p = (p l[i] || (l.drop (i + 1)).any p) := by
 rw [List.drop_eq_getElem_cons hi, List.any_cons]
theorem Cs {l : List Aa} {f : Aa -> Option Bool} (hl : l.length <= 1073741824) (h : ∀ x ∈ l, ∃ b, f x = some b) : Ag l f = some (l.any (gB f)) := by
 unfold Ag AF;simp only [AA]
 obtain ⟨o, e, hR⟩ := AB (b := AJ l f) (fun i s => s = (i : Int) /\ l.any (gB f) = (l.drop i).any (gB f)) (fun o => match o with | .inl _ => l.any (gB f) = false | .inr i => 0 <= i /\ l.any (gB f) = true) l.length (x0 := (0 : Int)) ⟨rfl, rfl⟩ (by
  rintro i _ rec hi ⟨rfl, ha⟩;obtain ⟨b, hb⟩ := h _ (bn hi);have hg : gB f l[i] = b := by simp [gB, hb]
  rw [NQ hi, hg] at ha;unfold AJ;rw [bf (by omega), bb, Aq hi, ba, hb, ba]
  cases b with
  | true => exact .inr ⟨_, rfl, by omega, by simpa using ha⟩
  | false =>
   refine .inl ⟨((i + 1 : Nat) : Int), ?_, rfl, by simpa using ha⟩
   rw [bc, w64 (by omega) (by omega)]; rfl) (by
  rintro _ rec ⟨rfl, ha⟩;refine ⟨.inl (), ?_, ?_⟩
  ·unfold AJ;rw [bg (by omega), bc]
  ·show l.any (gB f) = false
   rw [ha, List.drop_length]; rfl) (n := FUEL) (by unfold FUEL; omega)
 rw [e, ba]
 cases o with
 | inl u => rw [show l.any (gB f) = false from hR]; rfl
 | inr i => obtain ⟨h0, h1⟩ := hR; rw [h1]; simp [h0]
theorem FQ {l : List Ae} {f : Ae -> Option Bool} (hl : l.length <= 1073741824) (h : ∀ x ∈ l, ∃ b, f x = some b) : Am l f = some (l.any (gB f)) := by
 unfold Am AG;simp only [AA]
 obtain ⟨o, e, hR⟩ := AB (b := AI l f) (fun i s => s = (i : Int) /\ l.any (gB f) = (l.drop i).any (gB f)) (fun o => match o with | .inl _ => l.any (gB f) = false | .inr i => 0 <= i /\ l.any (gB f) = true) l.length (x0 := (0 : Int)) ⟨rfl, rfl⟩ (by
  rintro i _ rec hi ⟨rfl, ha⟩;obtain ⟨b, hb⟩ := h _ (bn hi);have hg : gB f l[i] = b := by simp [gB, hb]
  rw [NQ hi, hg] at ha;unfold AI;rw [bf (by omega), bb, Aq hi, ba, hb, ba]
  cases b with
  | true => exact .inr ⟨_, rfl, by omega, by simpa using ha⟩
  | false =>
   refine .inl ⟨((i + 1 : Nat) : Int), ?_, rfl, by simpa using ha⟩
   rw [bc, w64 (by omega) (by omega)]; rfl) (by
  rintro _ rec ⟨rfl, ha⟩;refine ⟨.inl (), ?_, ?_⟩
  ·unfold AI;rw [bg (by omega), bc]
  ·show l.any (gB f) = false
   rw [ha, List.drop_length]; rfl) (n := FUEL) (by unfold FUEL; omega)
 rw [e, ba]
 cases o with
 | inl u => rw [show l.any (gB f) = false from hR]; rfl
 | inr i => obtain ⟨h0, h1⟩ := hR; rw [h1]; simp [h0]
theorem QE {α : Type} {l : List α} {f : α -> Option Bool} (h : l.any (gB f) = false) {x : α} (hx : x ∈ l) (ha : ∃ b, f x = some b) : f x = some false := by
 obtain ⟨b, hb⟩ := ha;have := List.any_eq_false.1 h x hx;simp [gB, hb] at this;rw [hb, this]
theorem SY : ∀ (n : Nat) (p : Aa) (l : List Aa), szN p < n -> l.length + szN p <= 2097152 -> iter B5 n (p, l) = some (l ++ AE p)
 | 0, p, l, h, _ => by omega
 | n + 1, p, l, h, hl => by
  have hk := D9 p;have hkl := BI p;have ih := fun q m => SY n q m;rw [C4];generalize iter B5 n = rc at ih ⊢;unfold B5;simp only [AA];rw [F0 (by simp only [bi, bj]; have := Lb p; omega) (by simp only [bi, bj]; have := Lb p; omega), ba]
  obtain ⟨o, e, hR⟩ := AB (b := D6 p rc) (fun i s => s = (l ++ p :: BJ (p.Kids.take i), (i : Int))) (fun o => o = l ++ p :: BJ p.Kids) p.Kids.length (x0 := (l ++ [p], (0 : Int))) (by simp [BJ]) (by
   rintro i _ rec hi rfl;left;have h1 := G5 (bn hi);have h2 := Hi p.Kids i;have h3 := GK p.Kids;have h4 := GK (p.Kids.take i);have h5 : FD (p.Kids.take i) + szN p.Kids[i] <= FD p.Kids := by
    have hs : ∀ (a b : List Aa), FD (a ++ b) = FD a + FD b := fun a b => by simp [HU]
    have e1 : p.Kids = p.Kids.take i ++ p.Kids[i] :: p.Kids.drop (i + 1) := by rw [<- List.drop_eq_getElem_cons hi, List.take_append_drop]
    have e2 : FD p.Kids = FD (p.Kids.take i) + (szN p.Kids[i] + FD (p.Kids.drop (i + 1))) := by
     conv => lhs; rw [e1]
     rw [hs]; rfl
    omega
   refine ⟨_, ?_, rfl⟩;unfold D6;dsimp only;rw [bf (by omega), bb, Aq hi, ba, ih p.Kids[i] _ (by omega) (by simp only [bm, bi]; omega), ba, w64 (by omega) (by omega), H4 hi]
   simp) (by
   rintro _ rec rfl;refine ⟨_, ?_, rfl⟩;unfold D6;dsimp only
   rw [bg (by omega), bc, List.take_length]) (n := FUEL) (by unfold FUEL; omega)
  rw [e, ba, hR, Bn]
theorem Jr (d : Aa) (h : szN d <= 1049600) : EF d [] = some (AE d) := by
 have := SY FUEL d [] (by unfold FUEL; omega) (by simp; omega);unfold EF;rw [this]; rfl
mutual
theorem Gc : ∀ (x : Aa), ∀ y ∈ AE x, szN y <= szN x
 | ⟨k, nm, a, ks, t⟩ => fun y hy => by
  rw [Bn] at hy;rcases List.mem_cons.1 hy with rfl | hy
  ·exact Nat.le_refl _
  ·have := NT ks y hy;have := D9 ⟨k, nm, a, ks, t⟩;dsimp only at this;omega
theorem NT : ∀ (l : List Aa), ∀ y ∈ BJ l, szN y <= FD l
 | [] => fun y hy => by simp [BJ] at hy
 | x :: l => fun y hy => by
  simp only [BJ, List.mem_append] at hy;simp only [FD];rcases hy with hy | hy
  ·have := Gc x y hy; show szN y <= szN x + _; omega
  ·have := NT l y hy; omega
end
theorem Se (p k : Int) : ∃ b, EH p k = some b := by
 unfold EH;cases (p == (1 : Int)) <;> cases (p == (2 : Int)) <;> exact ⟨_, rfl⟩
theorem Nr (x : Aa) (h : szN x <= 1049600) : ∃ b, Dg x = some b /\ (b = false -> x.Kind ≠ 2 -> x.Attrs = []) := by
 have hl := BI x;have hc : Ag x.Kids (fun z0 => CA z0 x) = some (x.Kids.any (gB fun z0 => CA z0 x)) := Cs (by omega) fun y _ => by
  unfold CA;obtain ⟨b, hb⟩ := Se x.Kind y.Kind;rw [hb]; exact ⟨_, rfl⟩
 have key : ∀ a : Bool, ∃ b, (cond a (some true) ((Ag x.Kids (fun z0 => CA z0 x)).bind fun x21 => some x21) : Option Bool) = some b /\ (b = false -> a = false) := by
  intro a
  cases a with
  | true => exact ⟨true, rfl, id⟩
  | false => rw [hc]; exact ⟨_, rfl, fun _ => rfl⟩
 have fin : ∀ a : Bool, (a = false -> x.Kind ≠ 2 -> x.Attrs = []) -> ∃ b, (cond a (some true) ((Ag x.Kids (fun z0 => CA z0 x)).bind fun x21 => some x21) : Option Bool) = some b /\ (b = false -> x.Kind ≠ 2 -> x.Attrs = []) := by
  intro a ha;obtain ⟨b, e, hb⟩ := key a;exact ⟨b, e, fun h => ha (hb h)⟩
 have noA : ∀ q r : Bool, ((((x.Kind != (2 : Int)) && (decide ((0 : Int) < (x.Attrs.length : Int)))) || q) || r) = false -> x.Kind ≠ 2 -> x.Attrs = [] := by
  intro q r hq hk;have h1 := (Bool.or_eq_false_iff.1 (Bool.or_eq_false_iff.1 hq).1).1;rw [show (x.Kind != (2 : Int)) = true by simpa using hk, Bool.true_and, decide_eq_false_iff_not] at h1;exact List.length_eq_zero_iff.1 (by omega)
 unfold Dg;simp only [AA]
 cases h1 : (x.Kind == (1 : Int)) with
 | true => rw [bb]; exact fin _ (noA _ _)
 | false =>
  rw [bc]
  cases h2 : (x.Kind == (2 : Int)) with
  | true => rw [bb]; exact fin _ (fun _ hk => absurd (by simpa using h2) hk)
  | false =>
   rw [bc]
   cases h5 : (x.Kind == (5 : Int)) with
   | true => rw [bb]; exact fin _ (fun ha => noA _ false (by rw [Bool.or_false]; exact ha))
   | false => rw [bc]; exact fin _ (fun ha => noA _ false (by rw [Bool.or_false]; exact ha))
theorem SD : ∀ (n : Nat) (x : Aa) (a : Int), szN x < n -> szN x <= 1049600 -> 0 <= a -> a + szN x <= 4000000 -> ∃ b, iter Bz n (x, a) = some b
 | 0, x, a, h, _, _, _ => by omega
 | n + 1, x, a, h, hs, h0, h1 => by
  have hl := BI x;have ih := fun y a => SD n y a;rw [C4];generalize iter Bz n = rc at ih ⊢;have hc : ∀ b : Int, 0 <= b -> b <= a + 1 -> ∃ r, Ag x.Kids (fun z0 => B8 rc z0 b) = some r := by
   intro b hb0 hb1;refine ⟨_, Cs (by omega) fun y hy => ?_⟩;have h3 := GH hy;unfold B8;obtain ⟨r, hr⟩ := ih y b (by omega) (by omega) hb0 (by omega);rw [hr]; exact ⟨_, rfl⟩
  unfold Bz;simp only [AA]
  cases (x.Kind == (2 : Int)) with
  | true =>
   rw [bb]
   cases decide ((32 : Int) < a) with
   | true => exact ⟨_, rfl⟩
   | false =>
    rw [bc, w64 (by omega) (by omega)];obtain ⟨r, hr⟩ := hc (a + 1) (by omega) (by omega);rw [hr]; exact ⟨_, rfl⟩
  | false =>
   rw [bc];obtain ⟨r, hr⟩ := hc a h0 (by omega);rw [hr]; exact ⟨_, rfl⟩
theorem OY (x : Aa) (h : szN x <= 1049600) : ∃ b, CW x = some b := by
 have hl := Ct x;unfold CW;simp only [AA]
 cases ((decide ((64 : Int) < (x.Attrs.length : Int))) || (decide ((8192 : Int) < (x.Text.length : Int)))) with
 | true => exact ⟨_, rfl⟩
 | false =>
  rw [bc, FQ (l := x.Attrs) (f := DB) (by omega) fun y _ => ⟨_, rfl⟩];exact ⟨_, rfl⟩
theorem GP {x : Aa} {a : Ae} (ha : a ∈ x.Attrs) : a.Name.URI.length <= szN x /\ a.Name.Local.length <= szN x /\ a.Value.length <= szN x := by
 cases x with
 | mk K N A Ks T =>
  have key : ∀ (l : List Ae), a ∈ l -> ((((a.Name.URI.length + 1) + ((a.Name.Local.length + 1) + 0)) + 1) + ((a.Value.length + 1) + 0)) + 1 <= (List.map (fun x : Ae => ((((x.Name.URI.length + 1) + ((x.Name.Local.length + 1) + 0)) + 1) + ((x.Value.length + 1) + 0)) + 1) l).sum := by
   intro l
   induction l with
   | nil => intro h; cases h
   | cons y l ih =>
    intro h;simp only [List.map_cons, List.sum_cons];rcases List.mem_cons.1 h with rfl | h
    ·omega
    ·have := ih h; omega
  have := key A ha;simp only [szN, Ax];omega
theorem Fo (x : Aa) : x.Name.URI.length <= szN x /\ x.Name.Local.length <= szN x /\ x.Text.length <= szN x := by
 cases x; simp only [szN, Ax]; omega
theorem K6 (p : List By8) (h : p.length <= 1073741824) : ∃ b, DU p = some b := by
 unfold DU;obtain ⟨r, hr⟩ := Ib p h;rw [hr]; exact ⟨_, rfl⟩
theorem Hh (n : Ad) (h : n.URI.length <= 1073741824) : ∃ b, BR n = some b := by
 unfold BR;obtain ⟨b, hb, _⟩ := Ls n.Local;obtain ⟨c, hc⟩ := K6 n.URI h;rw [hb, ba];simp only [AA]
 cases ((!b) || (decide ((100 : Int) < (n.URI.length : Int)))) with
 | true => exact ⟨_, rfl⟩
 | false => rw [bc, hc]; exact ⟨_, rfl⟩
theorem Ky (x : Aa) (h : szN x <= 1049600) : ∃ b, Bi x = some b := by
 have hl := Ct x;have hn := Fo x;unfold Bi;simp only [AA]
 cases (x.Kind == (2 : Int)) with
 | true =>
  obtain ⟨b, hb⟩ := Hh x.Name (by omega);rw [bb, hb, ba]
  cases b with
  | true => exact ⟨_, rfl⟩
  | false =>
   rw [bc, FQ (by omega) fun y hy => by
    unfold CB;have := GP hy;obtain ⟨c, hc⟩ := Hh y.Name (by omega)
    rw [hc]; exact ⟨_, rfl⟩]
   exact ⟨_, rfl⟩
 | false =>
  rw [bc]
  cases (x.Kind == (5 : Int)) with
  | true =>
   obtain ⟨b, hb, _⟩ := Ls x.Name.Local;rw [bb, hb, ba]
   cases b with
   | false => exact ⟨_, rfl⟩
   | true =>
    obtain ⟨r, hr⟩ := Uk x.Name.Local (by omega);rw [Bool.not_true, bc, hr]; exact ⟨_, rfl⟩
  | false => exact ⟨_, rfl⟩
theorem M5 (x : Aa) (h : szN x <= 1049600) : ∃ b, BL x = some b := by
 have hl := Ct x;have hn := Fo x;unfold BL;obtain ⟨b, hb⟩ := K6 x.Text (by omega);rw [hb, ba];simp only [AA]
 cases b with
 | true => exact ⟨_, rfl⟩
 | false =>
  rw [bc, FQ (by omega) fun y hy => by
   unfold De;have := GP hy;obtain ⟨c, hc⟩ := K6 y.Value (by omega)
   rw [hc]; exact ⟨_, rfl⟩]
  exact ⟨_, rfl⟩
def RiseA (l : List Ae) : Prop := ∀ i (h : i + 1 < l.length), Na (l[i]'(by omega)).Name l[i + 1].Name < 0
theorem Hk (x : Aa) (h : szN x <= 1049600) : ∃ b, A6 x = some b /\ (b = false -> RiseA x.Attrs) := by
 have hl := Ct x;unfold A6;simp only [AA]
 obtain ⟨o, e, hR⟩ := AB (b := Bm x) (fun i s => s = (i : Int) /\ ∀ j (h : j + 1 < x.Attrs.length), j + 1 < i -> Na (x.Attrs[j]'(by omega)).Name x.Attrs[j + 1].Name < 0) (fun o => match o with | .inl _ => RiseA x.Attrs | .inr b => b = true) x.Attrs.length (x0 := (0 : Int)) ⟨rfl, fun j h hj => by omega⟩ (by
  rintro i _ rec hi ⟨rfl, ha⟩;unfold Bm;simp only [AA];rw [bf (by omega), bb];by_cases h0 : i = 0
  ·subst h0;left;refine ⟨((0 + 1 : Nat) : Int), ?_, rfl, fun j h hj => by omega⟩;rw [bg (by omega), bc, bc, w64 (by omega) (by omega)]; rfl
  ·obtain ⟨j, rfl⟩ : ∃ j, i = j + 1 := ⟨i - 1, by omega⟩
   rw [bf (by omega), bb, w64 (by omega) (by omega), show ((j + 1 : Nat) : Int) - 1 = (j : Int) by omega, Aq (by omega : j < x.Attrs.length), ba, Aq hi, ba, P1, ba]
   cases hc : decide ((0 : Int) <= Na x.Attrs[j].Name x.Attrs[j + 1].Name) with
   | true => exact .inr ⟨_, rfl, rfl⟩
   | false =>
    left;refine ⟨((j + 1 + 1 : Nat) : Int), ?_, rfl, fun k h hk => ?_⟩
    ·rw [bc, w64 (by omega) (by omega)]; rfl
    ·rw [decide_eq_false_iff_not] at hc;by_cases hkj : k = j
     ·subst hkj; omega
     ·exact ha k h (by omega)) (by
  rintro _ rec ⟨rfl, ha⟩;refine ⟨.inl (), ?_, fun i h => ha i h h⟩;unfold Bm
  rw [bg (by omega), bc]) (n := FUEL) (by unfold FUEL; omega)
 rw [e, ba]
 cases o with
 | inl u => exact ⟨_, rfl, fun _ => hR⟩
 | inr b => have hR : b = true := hR; subst hR; exact ⟨_, rfl, fun h => by cases h⟩

set_option linter.unusedSimpArgs false
set_option linter.unusedVariables false
set_option maxRecDepth 20000
theorem GU (s u : List By8) (h : s.length <= 1049600) : ∃ b, L_Contains s u = some b := by
 unfold L_Contains;rw [if_pos (by omega)]; exact ⟨_, rfl⟩
theorem Me (s : List By8) : ∃ b, L_TrimLeft s [32, 9, 10] = some b := by
 unfold L_TrimLeft;rw [if_pos ⟨by decide, by decide⟩]; exact ⟨_, rfl⟩
theorem OA (s u : List By8) (h : s.length <= 1049600) : ∃ b, BD s u = some b := by
 unfold BD BO;simp only [AA];by_cases hc : (u.length : Int) <= (s.length : Int)
 ·rw [bf hc, bb, w64 (by omega) (by omega)];rw [show ((s.length : Int) - (u.length : Int)) = ((s.length - u.length : Nat) : Int) by omega, F9 (by omega)];exact ⟨_, rfl⟩
 ·rw [bg hc]; exact ⟨_, rfl⟩
theorem JI (x : Aa) (h : szN x <= 1049600) : ∃ b, Ba x = some b := by
 have hl := BI x;have hn := Fo x;unfold Ba;simp only [AA]
 obtain ⟨o, e⟩ := NU (b := Bj x) (fun i s => s = (i : Int)) x.Kids.length (x0 := (0 : Int)) rfl (by
  rintro i _ rec hi rfl;unfold Bj;simp only [AA];have e1 : IntKind.wrap .i64 ((i : Int) + 1) = ((i + 1 : Nat) : Int) := by rw [w64 (by omega) (by omega)]; rfl
  have e2 : IntKind.wrap .i64 ((i : Int) - 1) = (i : Int) - 1 := by rw [w64 (by omega) (by omega)]
  rw [bf (by omega), bb, Aq hi, ba, e1, e2]
  cases hc : ((decide ((0 : Int) < (i : Int))) && (x.Kids[i].Kind == (3 : Int))) with
  | false => exact .inl ⟨((i + 1 : Nat) : Int), rfl, rfl⟩
  | true =>
   have h0 : (0 : Int) < (i : Int) := of_decide_eq_true (Bool.and_eq_true_iff.1 hc).1;rw [bb, show (i : Int) - 1 = ((i - 1 : Nat) : Int) by omega, Aq (by omega : i - 1 < x.Kids.length), ba]
   cases (x.Kids[i - 1].Kind == (3 : Int)) with
   | true => exact .inr ⟨_, rfl⟩
   | false => exact .inl ⟨((i + 1 : Nat) : Int), rfl, rfl⟩) (by
  rintro _ rec rfl;unfold Bj
  rw [bg (by omega)]; exact ⟨_, rfl⟩) (by omega)
 rw [e, ba]
 cases o with
 | inr b => exact ⟨_, rfl⟩
 | inl u =>
  cases (x.Kind == (3 : Int)) with
  | true => exact ⟨_, rfl⟩
  | false =>
   simp only [bc];obtain ⟨b1, h1⟩ := GU x.Text [45, 45] (by omega);obtain ⟨b2, h2⟩ := GU x.Text [13] (by omega);obtain ⟨b3, h3⟩ := OA x.Text [45] (by omega);obtain ⟨b4, h4⟩ := GU x.Text [63, 62] (by omega);obtain ⟨b5, h5⟩ := Me x.Text;simp only [h1, h2, h3, h4, h5, ba];cases (x.Kind == (4 : Int)) <;> cases (x.Kind == (5 : Int)) <;> cases b1 <;> cases b2 <;> cases b3 <;> cases b4 <;> exact ⟨_, rfl⟩
structure GoodT (d : Aa) : Prop where
 el : ∀ x ∈ AE d, x.Kind ≠ 2 -> x.Attrs = []
 up : ∀ x ∈ AE d, RiseA x.Attrs
theorem OL (d : Aa) (h : szN d <= 1049600) : ∃ r, AQ d = some r /\ (r = 0 -> GoodT d) := by
 have hl : (AE d).length <= 1049600 := Nat.le_trans (FX d) h;have hs : ∀ x ∈ AE d, szN x <= 1049600 := fun x hx => Nat.le_trans (Gc d x hx) h;have hodd : ∀ x ∈ AE d, ∃ b, Dg x = some b := fun x hx => (Nr x (hs x hx)).imp fun b h => h.1;have hgr := Cs (l := AE d) (f := CW) (by omega) fun x hx => OY x (hs x hx);have hmi := Cs (l := AE d) (f := Bi) (by omega) fun x hx => Ky x (hs x hx);have hsp := Cs (l := AE d) (f := BL) (by omega) fun x hx => M5 x (hs x hx);have hun' : ∀ x ∈ AE d, ∃ b, A6 x = some b := fun x hx => (Hk x (hs x hx)).imp fun b h => h.1;have hun := Cs (l := AE d) (f := A6) (by omega) hun';have hwt := Cs (l := AE d) (f := Ba) (by omega) fun x hx => JI x (hs x hx);have hoc := Cs (l := AE d) (f := Dg) (by omega) hodd;obtain ⟨bd, hdp⟩ := SD FUEL d 0 (by unfold FUEL; omega) h (by omega) (by omega);have hdp' : Gd d 0 = some bd := hdp
 obtain ⟨rk, hrk⟩ := NU (b := AX d) (fun i s => s.2 = (i : Int) /\ 0 <= s.1 /\ s.1 <= (i : Int)) d.Kids.length (x0 := ((0 : Int), (0 : Int))) ⟨rfl, by omega, by omega⟩ (by
  rintro i ⟨a, _⟩ rec hi ⟨rfl, h0, h1⟩;have := BI d;unfold AX;simp only [AA];rw [bf (by omega), bb, Aq hi, ba];left
  cases (d.Kids[i].Kind == (2 : Int)) with
  | true => exact ⟨(a + 1, ((i + 1 : Nat) : Int)), by rw [bb, w64 (by omega) (by omega), w64 (by omega) (by omega)]; rfl, rfl, by simp only; omega, by simp only; omega⟩
  | false => exact ⟨(a, ((i + 1 : Nat) : Int)), by rw [bc, w64 (by omega) (by omega)]; rfl, rfl, h0, by simp only; omega⟩) (by
  rintro ⟨a, _⟩ rec ⟨rfl, h0, h1⟩;unfold AX;dsimp only
  rw [bg (by omega)]; exact ⟨_, rfl⟩) (by have := BI d; omega)
 unfold AQ;rw [Jr d h, ba];simp only [AA, hgr, hmi, hsp, hun, hwt, hoc, hdp', hrk, ba];have non : ∀ {z : Int}, z ≠ 0 -> (z = 0 -> GoodT d) := fun h e => absurd e h
 cases (d.Kind != (1 : Int)) with
 | true => exact ⟨_, rfl, non (by decide)⟩
 | false =>
 rw [bc]
 cases ho : (AE d).any (gB Dg) with
 | true => exact ⟨_, rfl, non (by decide)⟩
 | false =>
 rw [bc]
 cases bd with
 | true => exact ⟨_, rfl, non (by decide)⟩
 | false =>
 rw [bc];have rest : ∀ g : Bool, ∃ r, (cond g (some (5 : Int)) (cond ((AE d).any (gB Bi)) (some 24) (cond ((AE d).any (gB BL)) (some 21) (cond ((AE d).any (gB A6)) (some 34) (cond ((AE d).any (gB Ba)) (some 32) (cond (rk != 1) (some 30) (some 0)))))) : Option Int) = some r /\ (r = 0 -> GoodT d) := by
  intro g
  cases g with
  | true => exact ⟨_, rfl, non (by decide)⟩
  | false =>
  cases (AE d).any (gB Bi) with
  | true => exact ⟨_, rfl, non (by decide)⟩
  | false =>
  cases (AE d).any (gB BL) with
  | true => exact ⟨_, rfl, non (by decide)⟩
  | false =>
  cases hu : (AE d).any (gB A6) with
  | true => exact ⟨_, rfl, non (by decide)⟩
  | false =>
  cases (AE d).any (gB Ba) with
  | true => exact ⟨_, rfl, non (by decide)⟩
  | false =>
  cases (rk != 1) with
  | true => exact ⟨_, rfl, non (by decide)⟩
  | false =>
   refine ⟨_, rfl, fun _ => ⟨fun x hx => ?_, fun x hx => ?_⟩⟩
   ·obtain ⟨b, hb, hf⟩ := Nr x (hs x hx);have := QE ho hx ⟨b, hb⟩;rw [hb] at this;exact hf (Option.some.inj this)
   ·obtain ⟨b, hb, hf⟩ := Hk x (hs x hx);have := QE hu hx ⟨b, hb⟩;rw [hb] at this;exact hf (Option.some.inj this)
 cases (decide ((2000 : Int) < (IntKind.wrap .i64 (((AE d).length : Int) - (1 : Int))))) with
 | true => exact rest true
 | false => exact rest _
end Go.Proofs.YtjofelloaofooaaGreatDoor
