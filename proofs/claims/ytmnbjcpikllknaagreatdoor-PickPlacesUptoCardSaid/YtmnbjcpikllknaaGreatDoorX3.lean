/- The query's reader always answers. No condition. -/
import Derived.Lib.IndexLaws
import Derived.Lib.Bytealg
import Derived.Lib.DecodeN
import Derived.Test.YtmnbjcpikllknaaGreatDoorX1
set_option linter.unusedSimpArgs false
set_option linter.unusedVariables false
set_option maxRecDepth 20000
namespace Go.Proofs.YtmnbjcpikllknaaGreatDoor
open Go.Lib (decodeL decodeN)
abbrev Rd := Ag
structure Rr (q : List By8) (lo : Int) (r : Rd) : Prop where
 eq : r.q = q
 lo : lo <= r.at_
 hi : r.at_ <= q.length
theorem Rr.le {q : List By8} {a b : Int} {r : Rd} (h : Rr q a r) (hb : b <= a) : Rr q b r := ⟨h.eq, by have := h.lo; omega, h.hi⟩
def Ans {A : Type} (q : List By8) (o : Option (Rd ⊕ A)) (P : A -> Prop) : Prop := ∃ x, o = some x /\ (match x with | .inl r => Rr q 0 r | .inr a => P a)
theorem Ans.bind {A B : Type} {q : List By8} {o : Option (Rd ⊕ A)} {P : A -> Prop} {k : A -> Option (Rd ⊕ B)} {Q : B -> Prop} (h : Ans q o P) (hk : ∀ a, P a -> Ans q (k a) Q) : Ans q (o.bind fun x => pnc x (fun r => some (.inl r)) k) Q := by
 obtain ⟨x, rfl, hx⟩ := h
 cases x with
 | inl r => exact ⟨.inl r, rfl, hx⟩
 | inr a => exact hk a hx
theorem Ans.mono {A : Type} {q : List By8} {o : Option (Rd ⊕ A)} {P Q : A -> Prop} (h : Ans q o P) (hk : ∀ a, P a -> Q a) : Ans q o Q := by
 obtain ⟨x, rfl, hx⟩ := h
 cases x with
 | inl r => exact ⟨.inl r, rfl, hx⟩
 | inr a => exact ⟨.inr a, rfl, hk a hx⟩
theorem Ans.ok {A : Type} {q : List By8} {a : A} {P : A -> Prop} (h : P a) : Ans q (some (.inr a)) P := ⟨.inr a, rfl, h⟩
section
variable {q : List By8} (hq : q.length <= 1048576) {lo : Int} (h0 : 0 <= lo) {r : Rd}
include hq h0
end

set_option linter.unusedSimpArgs false
set_option linter.unusedVariables false
set_option maxRecDepth 20000
def WhF (x : Nat) : Prop := ∃ a : Int, 0 <= a /\ a < 10000000 /\ (x = i2f a \/ x = Z5 (i2f a))
structure CP (c : Ae) : Prop where
 k : c.kind = 91 -> 1 <= c.k /\ c.k <= 1000000000
 s : c.kind = 126 -> WhF c.spot.1 /\ WhF c.spot.2
theorem CP.of {c : Ae} (h1 : c.kind ≠ 91) (h2 : c.kind ≠ 126) : CP c := ⟨fun h => absurd h h1, fun h => absurd h h2⟩
theorem Ans.letJ {V B : Type} {q : List By8} {J : V -> Option (Rd ⊕ B)} {k : (V -> Option (Rd ⊕ B)) -> Option (Rd ⊕ B)} {Q : B -> Prop} (PV : V -> Prop) (hJ : ∀ v, PV v -> Ans q (J v) Q) (hk : ∀ J', (∀ v, PV v -> Ans q (J' v) Q) -> Ans q (k J') Q) : Ans q (letJ J k) Q := hk J hJ
section
variable {q : List By8} (hq : q.length <= 1048576) {lo : Int} (h0 : 0 <= lo) {r : Rd}
include hq h0
def SP (N : Nat) (st : Ai) : Prop := (∀ c ∈ st.conds, CP c) /\ st.conds.length <= N
omit h0 in
end

set_option linter.unusedSimpArgs false
set_option linter.unusedVariables false
set_option maxRecDepth 20000
open Go.Lib (decodeL decodeN)
def Rx (q x : List By8) (r r' : Rd) : Prop := ∃ n : Nat, n <= q.length /\ r = ⟨q, (n : Int)⟩ /\ r' = ⟨q ++ 91 :: x, (n : Int)⟩
def LX {A B : Type} (o : Option (Rd ⊕ A)) (o' : Option (Rd ⊕ B)) (R : A -> B -> Prop) : Prop := ∀ a, o = some (.inr a) -> ∃ b, o' = some (.inr b) /\ R a b
theorem LX.bind {A B A' B' : Type} {o : Option (Rd ⊕ A)} {o' : Option (Rd ⊕ B)} {R : A -> B -> Prop} {k : A -> Option (Rd ⊕ A')} {k' : B -> Option (Rd ⊕ B')} {S : A' -> B' -> Prop} {f : Rd -> Rd} {f' : Rd -> Option (Rd ⊕ B')}
  (h : LX o o' R) (hk : ∀ a b, R a b -> LX (k a) (k' b) S) : LX (o.bind fun x => pnc x (fun r => some (.inl (f r))) k) (o'.bind fun x => pnc x f' k') S := by
 intro a ha
 cases ho : o with
 | none => rw [ho] at ha; cases ha
 | some v => cases v with
  | inl r => rw [ho] at ha; cases ha
  | inr v =>
   rw [ho] at ha;obtain ⟨b, hb, hR⟩ := h v ho;rw [hb];exact hk v b hR a ha
theorem LX.ok {A B : Type} {a : A} {b : B} {R : A -> B -> Prop} (h : R a b) : LX (some (.inr a)) (some (.inr b)) R := fun a' ha => by cases ha; exact ⟨b, rfl, h⟩
theorem LX.mono {A B : Type} {o : Option (Rd ⊕ A)} {o' : Option (Rd ⊕ B)} {R S : A -> B -> Prop} (h : LX o o' R) (hk : ∀ a b, R a b -> S a b) : LX o o' S := fun a ha => by
 obtain ⟨b, hb, hR⟩ := h a ha;exact ⟨b, hb, hk a b hR⟩
theorem LX.letJ {V V' A B : Type} {J : V -> Option (Rd ⊕ A)} {J' : V' -> Option (Rd ⊕ B)} {k : (V -> Option (Rd ⊕ A)) -> Option (Rd ⊕ A)} {k' : (V' -> Option (Rd ⊕ B)) -> Option (Rd ⊕ B)} {S : A -> B -> Prop} (P : V -> V' -> Prop)
  (hJ : ∀ v v', P v v' -> LX (J v) (J' v') S) (hk : ∀ J J', (∀ v v', P v v' -> LX (J v) (J' v') S) -> LX (k J) (k' J') S) : LX (letJ J k) (letJ J' k') S := hk J J' hJ
section
variable {q x : List By8} (hq : q.length <= 1048576) {r r' : Rd}
include hq
omit hq in
omit hq in
theorem YU (Q : List By8) (c : Int) : AK ⟨Q, (Q.length : Int)⟩ c = some (false, ⟨Q, (Q.length : Int)⟩) := by
 unfold AK B9;simp only [letJ];rw [bg (by omega)]; rfl
end

set_option linter.unusedSimpArgs false
set_option linter.unusedVariables false
set_option maxRecDepth 20000
section
variable {q x : List By8} (hq : q.length <= 1048576) (hx : x.length <= 1073741824) {r r' : Rd}
include hq hx
end
def CondAt (Q : List By8) (k : Int) (c : Ae) : Prop := (∃ r, Bz ⟨Q, k⟩ = some (.inl r)) \/ Bz ⟨Q, k⟩ = some (.inr (c, ⟨Q, (Q.length : Int)⟩))
def Aiq (st : Ai) (c : Ae) : Ai := { st with conds := st.conds ++ [c] }
def Sx (q x : List By8) (c : Ae) (y y' : Ai × Rd) : Prop :=
 (y'.1 = y.1 /\ Rx q x y.2 y'.2 /\ (y.2.at_ < q.length \/ y.1.attr = true)) \/
 (y.1.attr = false /\ y'.1 = Aiq y.1 c /\ y.2 = ⟨q, (q.length : Int)⟩ /\ y'.2 = ⟨q ++ 91 :: x, ((q ++ 91 :: x).length : Int)⟩)
def LY {A B : Type} (o : Option (Rd ⊕ A)) (o' : Option (Rd ⊕ B)) (R : A -> B -> Prop) : Prop := ∀ a, o = some (.inr a) -> (∃ r, o' = some (.inl r)) \/ ∃ b, o' = some (.inr b) /\ R a b
theorem LX.y {A B : Type} {o : Option (Rd ⊕ A)} {o' : Option (Rd ⊕ B)} {R : A -> B -> Prop} (h : LX o o' R) : LY o o' R := fun a ha => .inr (h a ha)
section
variable {q x : List By8} (hq : q.length <= 1048576) (hx : x.length <= 1048576) {c : Ae} (hc : CondAt (q ++ 91 :: x) ((q.length : Int) + 1) c) {r r' : Rd}
include hq hx hc
omit hq hx hc in
theorem LY.letJ {V V' A B : Type} {J : V -> Option (Rd ⊕ A)} {J' : V' -> Option (Rd ⊕ B)} {k : (V -> Option (Rd ⊕ A)) -> Option (Rd ⊕ A)} {k' : (V' -> Option (Rd ⊕ B)) -> Option (Rd ⊕ B)} {S : A -> B -> Prop} (P : V -> V' -> Prop)
  (hJ : ∀ v v', P v v' -> LY (J v) (J' v') S) (hk : ∀ J J', (∀ v v', P v v' -> LY (J v) (J' v') S) -> LY (k J) (k' J') S) : LY (letJ J k) (letJ J' k') S := hk J J' hJ
end

set_option linter.unusedSimpArgs false
set_option linter.unusedVariables false
set_option maxRecDepth 20000
def Sb (l : List Ai) : Bool := match l.getLast? with
 | some st => st.attr
 | none => false
theorem Sz (l : List Ai) (st : Ai) : Sb (l ++ [st]) = st.attr := by unfold Sb; rw [List.getLast?_concat]
abbrev RdR := List Ai ⊕ (Int ⊕ (List Ai × Int × Int))
theorem Pq (q : List By8) (rec : List Ai × List By8 × Int -> Option RdR) (l : List Ai) (s : List By8) (z : Int) (hl : l.length <= 1048577) :
  Fe q rec (l, s, z) = cond (l.isEmpty || decide (z < (q.length : Int))) (cond (Sb l) (some (.inr (.inl z))) ((BQ ⟨s, z⟩).bind fun x => pnc x (fun r => some (.inr (.inl r.at_))) fun y => rec (l ++ [y.1], y.2.q, y.2.at_))) (some (.inl l)) := by
 have e0 : ∀ y : Ai × Ag, ((app 80 l [y.1]).bind fun _ => rec (l ++ [y.1], y.2.q, y.2.at_)) = rec (l ++ [y.1], y.2.q, y.2.at_) := fun y => by
  rw [DL (by simp only [bi, bj]; omega) (by simp only [bi, bj]; omega), ba]
 unfold Fe;simp only [letJ, e0]
 cases l with
 | nil => rfl
 | cons st l =>
  have h1 : (((st :: l).length : Int) == 0) = false := by rw [beq_eq_false_iff_ne]; simp only [bi]; omega
  have h2 : decide ((0 : Int) < ((st :: l).length : Int)) = true := bf (by simp only [bi]; omega);have h3 : idx (st :: l) (IntKind.wrap .i64 (((st :: l).length : Int) - 1)) = some ((st :: l).getLast (by simp)) := by
   rw [w64 (by omega) (by omega), show ((st :: l).length : Int) - 1 = (((st :: l).length - 1 : Nat) : Int) by simp, AI (by simp : (st :: l).length - 1 < (st :: l).length), List.getLast_eq_getElem]
  have h4 : Sb (st :: l) = ((st :: l).getLast (by simp)).attr := by unfold Sb; rw [List.getLast?_eq_some_getLast (by simp)]
  rw [h1, h2, h3, h4];simp only [bc, bb, ba, List.isEmpty_cons, Bool.false_or];cases decide (z < (q.length : Int)) <;> cases ((st :: l).getLast (by simp)).attr <;> rfl
section
variable {q x : List By8} (hq : q.length <= 1048576) (hx : (q ++ 91 :: x).length <= 1048576) {c : Ae} (hc : CondAt (q ++ 91 :: x) ((q.length : Int) + 1) c)
include hq hx hc
end

set_option linter.unusedSimpArgs false
set_option linter.unusedVariables false
set_option maxRecDepth 20000
section
variable {Q : List By8} (hQ : Q.length <= 8388608)
theorem GW {k : Nat} {b : By8} {B : List By8} (h : Q.drop k = b :: B) : ∃ hk : k < Q.length, Q[k] = b /\ Q.drop (k + 1) = B := by
 have hk : k < Q.length := by
  apply Classical.byContradiction; intro hn;rw [List.drop_eq_nil_of_le (by omega)] at h; cases h
 refine ⟨hk, ?_, ?_⟩
 ·rw [List.drop_eq_getElem_cons hk] at h; injection h
 ·rw [List.drop_eq_getElem_cons hk] at h; injection h
theorem Vf {k : Nat} {b : By8} {B : List By8} (h : Q.drop k = b :: B) (c : Int) : B9 ⟨Q, (k : Int)⟩ c = some ((b.toNat : Int) == c) := by
 obtain ⟨hk, e, _⟩ := GW h;unfold B9;simp only [letJ];rw [bf (by omega), bb, AI hk, e]; rfl
include hQ
theorem Q4 {k : Nat} {b : By8} {B : List By8} (h : Q.drop k = b :: B) (c : Int) : AK ⟨Q, (k : Int)⟩ c = some (if (b.toNat : Int) = c then (true, ⟨Q, ((k + 1 : Nat) : Int)⟩) else (false, ⟨Q, (k : Int)⟩)) := by
 obtain ⟨hk, e, _⟩ := GW h;unfold AK;rw [Vf h c, ba];by_cases hc : (b.toNat : Int) = c
 ·rw [if_pos hc, show ((b.toNat : Int) == c) = true by rw [hc]; simp, bb, w64 (x := (k : Int) + 1) (by omega) (by omega)]; rfl
 ·rw [if_neg hc, show ((b.toNat : Int) == c) = false by rw [beq_eq_false_iff_ne]; exact hc, bc]
theorem Rz {k : Nat} {b : By8} {B : List By8} (h : Q.drop k = b :: B) (c : Int) (hc : (b.toNat : Int) = c) : AV ⟨Q, (k : Int)⟩ c = some (.inr ⟨Q, ((k + 1 : Nat) : Int)⟩) := by
 obtain ⟨hk, e, _⟩ := GW h;unfold AV;simp only [letJ];rw [Vf h c, ba, show ((b.toNat : Int) == c) = true by rw [hc]; simp, Bool.not_true, bc, w64 (x := (k : Int) + 1) (by omega) (by omega)]; rfl
omit hQ in
end
def EndB (c : By8) : Prop := c = 93 \/ c = 123 \/ c = 61
def NoEnd (loc : List By8) : Prop := ∀ c ∈ loc, c ≠ 93 /\ c ≠ 123 /\ c ≠ 61 /\ c ≠ 126
theorem Pp (z : By8) (t : List By8) (h : z.toNat < 128) : L_DecodeRuneInString (z :: t) = some ((z.toNat : Int), 1) := by
 unfold L_DecodeRuneInString Lib.decodeGo;have e2 : ¬ ((⟨(z :: t).toArray⟩ : ByteArray).size = 0) := by
  show ¬ ((z :: t : List By8).toArray.size = 0);simp
 rw [if_neg e2, Lib.decode_at];have : (⟨(z :: t).toArray⟩ : ByteArray).get! 0 = z := by
  show ((z :: t : List By8).toArray)[0]! = z;simp
 rw [this];unfold Lib.decodeN;rw [if_pos h]; rfl
section
variable {Q : List By8} (hQ : Q.length <= 8388608) {k : Nat} {loc tl : List By8} {z : By8} (h : Q.drop k = loc ++ z :: tl) (hz : EndB z) (hloc : NoEnd loc)
include hQ h hz
include hloc
end
def Ahs (n : Aa) (v : Option (List By8)) : Ae := match v with
 | none => ⟨64, 0, n, [], (0, 0)⟩
 | some v => ⟨61, 0, n, v, (0, 0)⟩
def Ab6 : Option (List By8) -> List By8
 | none => [93]
 | some v => 61 :: 39 :: (v ++ [39, 93])
def Abx (n : Aa) : List By8 := if n.URI = [] then n.Local else n.Local ++ 123 :: (n.URI ++ [125])
def Ahw (n : Aa) (v : Option (List By8)) : List By8 := 64 :: (Abx n ++ Ab6 v)
end Go.Proofs.YtmnbjcpikllknaaGreatDoor
