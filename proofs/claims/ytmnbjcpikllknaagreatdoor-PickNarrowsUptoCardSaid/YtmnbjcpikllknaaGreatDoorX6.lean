/- The query's reader reads a text that goes on with a condition as it reads the text, as far as that goes. No condition. -/
import Derived.Lib.DecodeN
import Derived.Test.YtmnbjcpikllknaaGreatDoorX3
set_option linter.unusedSimpArgs false
set_option linter.unusedVariables false
set_option maxRecDepth 20000
namespace Go.Proofs.YtmnbjcpikllknaaGreatDoor
open Go.Lib (decodeL decodeN)
theorem Lu {σ τ ρ ψ : Type} {b : (σ -> Option ρ) -> σ -> Option ρ} {c : (τ -> Option ψ) -> τ -> Option ψ} (I : Nat -> σ -> τ -> Prop) (G : ρ -> Prop) (R : ρ -> ψ -> Prop)
  (step : ∀ n x y, I (n + 1) x y -> (∀ x' y', I n x' y' -> ∀ o, iter b n x' = some o -> G o -> ∃ o', iter c n y' = some o' /\ R o o') -> ∀ o, b (iter b n) x = some o -> G o -> ∃ o', c (iter c n) y = some o' /\ R o o') :
  ∀ (n : Nat) (x : σ) (y : τ), I n x y -> ∀ o, iter b n x = some o -> G o -> ∃ o', iter c n y = some o' /\ R o o'
 | 0, _, _, _, o, h, _ => by cases h
 | n + 1, x, y, hI, o, h, hG => step n x y hI (fun x' y' h' o h1 h2 => Lu I G R step n x' y' h' o h1 h2) o h hG
theorem PB (l x : List By8) (b : By8) (hb : b.toNat < 128) (h : l ≠ []) : L_DecodeRuneInString (l ++ b :: x) = L_DecodeRuneInString l := by
 have key : decodeL (l ++ b :: x) = decodeL l := by
  have hb4 : ¬ b.toNat / 64 = 2 := by omega
  unfold decodeL;rw [Lib.decode_at, Lib.decode_at];have hg : ∀ (m : List By8) (i : Nat), (⟨m.toArray⟩ : ByteArray).get! i = m.getD i 0 := fun m i => by
   show (m.toArray)[i]! = _;simp [List.getD]; rfl
  have hz : ∀ m : List By8, (⟨m.toArray⟩ : ByteArray).size = m.length := fun m => by
   show m.toArray.size = _;simp
  simp only [hg, hz, Nat.sub_zero, Nat.zero_add]
  match l, h with
  | [c0], _ => simp [decodeN, hb4]
  | [c0, c1], _ => simp [decodeN, hb4]
  | [c0, c1, c2], _ => simp [decodeN, hb4]
  | c0 :: c1 :: c2 :: c3 :: r, _ => simp [decodeN]
 unfold L_DecodeRuneInString Lib.decodeGo;have e1 : ¬ ((⟨(l ++ b :: x).toArray⟩ : ByteArray).size = 0) := by
  show ¬ ((l ++ b :: x).toArray.size = 0);simp
 have e2 : ¬ ((⟨l.toArray⟩ : ByteArray).size = 0) := by
  show ¬ (l.toArray.size = 0);simpa using h
 rw [if_neg e1, if_neg e2];have : Utf8.decode ⟨(l ++ b :: x).toArray⟩ 0 = Utf8.decode ⟨l.toArray⟩ 0 := key;rw [this]
theorem Nn {l m : List By8} {c : By8} (h : 0 <= Lib.indexByte l c) : Lib.indexByte (l ++ m) c = Lib.indexByte l c := by
 obtain ⟨n, hn⟩ : ∃ n : Nat, Lib.indexByte l c = (n : Int) := ⟨(Lib.indexByte l c).toNat, by omega⟩
 obtain ⟨h1, h2⟩ := Lib.indexByte_some hn;have hl := (List.getElem?_eq_some_iff.1 h1).1;rw [hn];have g1 : (l ++ m)[n]? = some c := by rw [List.getElem?_append_left hl]; exact h1
 have hb := Lib.indexByte_ge (l ++ m) c;by_cases he : Lib.indexByte (l ++ m) c = -1
 ·exact absurd g1 (Lib.indexByte_none he n)
 ·obtain ⟨k, hk⟩ : ∃ k : Nat, Lib.indexByte (l ++ m) c = (k : Int) := ⟨(Lib.indexByte (l ++ m) c).toNat, by omega⟩
  obtain ⟨k1, k2⟩ := Lib.indexByte_some hk;rw [hk];rcases Nat.lt_trichotomy k n with h | h | h
  ·rw [List.getElem?_append_left (by omega)] at k1; exact absurd k1 (h2 k h)
  ·rw [h]
  ·exact absurd g1 (k2 n h)
def Rx (q x : List By8) (r r' : Rd) : Prop := ∃ n : Nat, n <= q.length /\ r = ⟨q, (n : Int)⟩ /\ r' = ⟨q ++ 91 :: x, (n : Int)⟩
def LX {A B : Type} (o : Option (Rd ⊕ A)) (o' : Option (Rd ⊕ B)) (R : A -> B -> Prop) : Prop := ∀ a, o = some (.inr a) -> ∃ b, o' = some (.inr b) /\ R a b
theorem LX.bind {A B A' B' : Type} {o : Option (Rd ⊕ A)} {o' : Option (Rd ⊕ B)} {R : A -> B -> Prop} {k : A -> Option (Rd ⊕ A')} {k' : B -> Option (Rd ⊕ B')} {S : A' -> B' -> Prop} {f : Rd -> Rd} {f' : Rd -> Option (Rd ⊕ B')}
  (h : LX o o' R) (hk : ∀ a b, R a b -> LX (k a) (k' b) S) : LX (o.bind fun x => pnc x (fun r => some (.inl (f r))) k) (o'.bind fun x => pnc x f' k') S := by
 intro a ha
 cases ho : o with
 | none => rw [ho] at ha; cases ha
 | some v => cases v with
  | inl r => rw [ho] at ha; cases ha
  | inr v =>
   rw [ho] at ha;obtain ⟨b, hb, hR⟩ := h v ho;rw [hb];exact hk v b hR a ha
theorem LX.ok {A B : Type} {a : A} {b : B} {R : A -> B -> Prop} (h : R a b) : LX (some (.inr a)) (some (.inr b)) R := fun a' ha => by cases ha; exact ⟨b, rfl, h⟩
theorem LX.bad {A B : Type} {r r' : Rd} {k : Unit -> Option (Rd ⊕ A)} {o' : Option (Rd ⊕ B)} {R : A -> B -> Prop} : LX ((Bh r).bind fun x => pnc x (fun _ => some (.inl r')) k) o' R := fun a ha => by
 have h : (some (.inl r') : Option (Rd ⊕ A)) = some (.inr a) := ha;cases h
theorem LX.mono {A B : Type} {o : Option (Rd ⊕ A)} {o' : Option (Rd ⊕ B)} {R S : A -> B -> Prop} (h : LX o o' R) (hk : ∀ a b, R a b -> S a b) : LX o o' S := fun a ha => by
 obtain ⟨b, hb, hR⟩ := h a ha;exact ⟨b, hb, hk a b hR⟩
theorem LX.letJ {V V' A B : Type} {J : V -> Option (Rd ⊕ A)} {J' : V' -> Option (Rd ⊕ B)} {k : (V -> Option (Rd ⊕ A)) -> Option (Rd ⊕ A)} {k' : (V' -> Option (Rd ⊕ B)) -> Option (Rd ⊕ B)} {S : A -> B -> Prop} (P : V -> V' -> Prop)
  (hJ : ∀ v v', P v v' -> LX (J v) (J' v') S) (hk : ∀ J J', (∀ v v', P v v' -> LX (J v) (J' v') S) -> LX (k J) (k' J') S) : LX (letJ J k) (letJ J' k') S := hk J J' hJ
section
variable {q x : List By8} (hq : q.length <= 1048576) {r r' : Rd}
theorem Xc (c : Int) (hc : c ≠ 91 \/ r.at_ < q.length) (h : Rx q x r r') : ∃ b, AV r c = some b /\ AV r' c = some b /\ (b = true -> ∃ n : Nat, n < q.length /\ r = ⟨q, (n : Int)⟩ /\ r' = ⟨q ++ 91 :: x, (n : Int)⟩) := by
 obtain ⟨n, hn, rfl, rfl⟩ := h;unfold AV;simp only [letJ];have hl2 : (q ++ 91 :: x).length = q.length + (x.length + 1) := by simp
 by_cases hl : n < q.length
 ·rw [bf (show (n : Int) < (q.length : Int) by omega), bf (show (n : Int) < ((q ++ 91 :: x).length : Int) by omega), bb, bb, AD hl, AD (l := q ++ 91 :: x) (i := n) (by omega), List.getElem_append_left hl];exact ⟨_, rfl, rfl, fun _ => ⟨n, hl, rfl, rfl⟩⟩
 ·have e : n = q.length := by omega
  subst e;rw [bg (show ¬ (q.length : Int) < (q.length : Int) by omega), bf (show (q.length : Int) < ((q ++ 91 :: x).length : Int) by omega), bc, bb, AD (l := q ++ 91 :: x) (i := q.length) (by omega)];refine ⟨false, rfl, ?_, fun h => by cases h⟩;rw [ba];have : (q ++ 91 :: x)[q.length]'(by omega) = 91 := by simp
  rw [this];have : (((91 : By8).toNat : Int) == c) = false := by
   rw [beq_eq_false_iff_ne]; exact fun e => hc.elim (fun h => h e.symm) fun h => absurd h (by simp only; omega)
  rw [this]
theorem W2 (c : Int) (hc : c ≠ 91) (h : Rx q x r r') : ∃ b, AV r c = some b /\ AV r' c = some b /\ (b = true -> ∃ n : Nat, n < q.length /\ r = ⟨q, (n : Int)⟩ /\ r' = ⟨q ++ 91 :: x, (n : Int)⟩) := Xc c (.inl hc) h
include hq
theorem JA (c : Int) (hc : c ≠ 91) (h : Rx q x r r') : LX (AC r c) (AC r' c) (Rx q x) := by
 obtain ⟨b, h1, h2, h3⟩ := W2 c hc h;unfold AC;simp only [letJ];rw [h1, h2, ba, ba]
 cases b with
 | false => rw [Bool.not_false, bb, bb]; exact LX.bad
 | true =>
  obtain ⟨n, hn, rfl, rfl⟩ := h3 rfl;rw [Bool.not_true, bc, bc];dsimp only;rw [w64 (by omega) (by omega)];exact .ok ⟨n + 1, by omega, rfl, rfl⟩
theorem Ab8 (c : Int) (hc : c ≠ 91 \/ r.at_ < q.length) (h : Rx q x r r') : ∃ b s s', Ay r c = some (b, s) /\ Ay r' c = some (b, s') /\ Rx q x s s' /\ (b = false -> s = r) /\ r.at_ <= s.at_ := by
 obtain ⟨b, h1, h2, h3⟩ := Xc c hc h;unfold Ay;rw [h1, h2, ba, ba]
 cases b with
 | false => exact ⟨_, _, _, rfl, rfl, h, fun _ => rfl, Int.le_refl _⟩
 | true =>
  obtain ⟨n, hn, rfl, rfl⟩ := h3 rfl;rw [bb, bb];dsimp only;rw [w64 (by omega) (by omega)];exact ⟨_, _, _, rfl, rfl, ⟨n + 1, by omega, rfl, rfl⟩, fun h => (by cases h), by simp only; omega⟩
theorem Nv (c : Int) (hc : c ≠ 91) (h : Rx q x r r') : ∃ b s s', Ay r c = some (b, s) /\ Ay r' c = some (b, s') /\ Rx q x s s' /\ (b = false -> s = r) /\ r.at_ <= s.at_ := Ab8 hq c (.inl hc) h
omit hq in
theorem JI {n : Nat} (hn : n <= q.length) : (q ++ 91 :: x).drop n = q.drop n ++ 91 :: x := by rw [List.drop_append, show n - q.length = 0 by omega, List.drop_zero]
theorem W0 (c : Int) (h : Rx q x r r') (hx : x.length <= 1073741824) : LX (AQ r c) (AQ r' c) fun y y' => y'.1 = y.1 /\ Rx q x y.2 y'.2 := by
 obtain ⟨n, hn, rfl, rfl⟩ := h;have hl2 : (q ++ 91 :: x).length = q.length + (x.length + 1) := by simp
 unfold AQ;simp only [letJ];rw [DT (by omega), DT (l := q ++ 91 :: x) (by omega), ba, ba];unfold L_IndexByte;rw [ba, ba, JI hn];have hb1 := Ku (q.drop n) c.toNat.toUInt8;rw [List.length_drop] at hb1;by_cases hx : Lib.indexByte (q.drop n) c.toNat.toUInt8 < 0
 ·rw [bf hx, bb]; exact LX.bad
 ·rw [Nn (by omega)];generalize Lib.indexByte (q.drop n) c.toNat.toUInt8 = i at hb1 hx ⊢;rw [bg hx, bc, bc, w64 (x := i + 1) (by omega) (by omega), w64 (by omega) (by omega), w64 (by omega) (by omega)];unfold slc;rw [if_pos (by omega), if_pos (by omega), ba, ba];refine .ok ⟨?_, (n + (i + 1)).toNat, by omega, by rw [Int.toNat_of_nonneg (by omega)], by rw [Int.toNat_of_nonneg (by omega)]⟩;simp only;rw [Int.toNat_natCast, JI hn, List.take_append_of_le_length (by rw [List.length_drop]; omega)]
theorem TF (h : Rx q x r r') (hx : x.length <= 1073741824) : LX (AH r) (AH r') fun y y' => y'.1 = y.1 /\ Rx q x y.2 y'.2 := by
 obtain ⟨n, hn, rfl, rfl⟩ := h;have hl2 : (q ++ 91 :: x).length = q.length + (x.length + 1) := by simp
 unfold AH;simp only [letJ];intro a ha;obtain ⟨o, ho, ha2⟩ := Option.bind_eq_some_iff.1 ha;clear ha;obtain ⟨o', ho', hR⟩ := Lu (b := AL ⟨q, (n : Int)⟩) (c := AL ⟨q ++ 91 :: x, (n : Int)⟩) (fun _ s s' => ∃ k : Nat, k <= q.length /\ s = (q, (k : Int)) /\ s' = (q ++ 91 :: x, (k : Int))) (fun _ => True)
  (fun s s' => ∃ k : Nat, k <= q.length /\ s = (q, (k : Int)) /\ s' = (q ++ 91 :: x, (k : Int))) (by
  rintro m _ _ ⟨k, hk, rfl, rfl⟩ hrec o ho _;generalize iter (AL ⟨q, (n : Int)⟩) m = rec at hrec ho;generalize iter (AL ⟨q ++ 91 :: x, (n : Int)⟩) m = rec' at hrec ⊢;unfold AL at ho ⊢;simp only [letJ] at ho ⊢;have stop : ∀ o, (some (q, (k : Int)) : Option (List By8 × Int)) = some o -> ∃ o', (some (q ++ 91 :: x, (k : Int)) : Option (List By8 × Int)) = some o' /\ ∃ k : Nat, k <= q.length /\ o = (q, (k : Int)) /\ o' = (q ++ 91 :: x, (k : Int)) := fun o h => by
   cases h; exact ⟨_, rfl, k, hk, rfl, rfl⟩
  by_cases hl : k < q.length
  ·have hne : q.drop k ≠ [] := by intro h; have := congrArg List.length h; simp at this; omega
   obtain ⟨rn, w, hd, w1, w2⟩ := YL (q.drop k) hne;have hd2 := PB (q.drop k) x 91 (by decide) hne;rw [List.length_drop] at w2;obtain ⟨b1, hb1⟩ := Hz (rn : Int);obtain ⟨b2, hb2⟩ := FA (rn : Int);rw [bf (show (k : Int) < ((q ++ 91 :: x).length : Int) by omega), bb, DT (by omega), ba, JI hk, hd2, hd, ba, hb1, hb2];rw [bf (show (k : Int) < (q.length : Int) by omega), bb, DT (by omega), ba, hd, ba, hb1, hb2] at ho;simp only [ba] at ho ⊢;rw [w64 (by omega) (by omega)] at ho ⊢;have go := hrec (q, (k : Int) + (w : Int)) (q ++ 91 :: x, (k : Int) + (w : Int)) ⟨k + w, by omega, by simp, by simp⟩;revert ho;cases (((rn : Int) == (65533 : Int)) && (decide ((w : Int) < (3 : Int)))) <;> cases b1 <;> cases b2 <;> cases ((k : Int) == (n : Int)) <;> first | exact stop o | exact fun h => go o h trivial
  ·have e : k = q.length := by omega
   subst e;rw [bg (by omega), bc] at ho;rw [bf (show (q.length : Int) < ((q ++ 91 :: x).length : Int) by omega), bb, DT (by omega), ba, JI hk, List.drop_length, List.nil_append];have hd : L_DecodeRuneInString (91 :: x) = some (91, 1) := by
    have := PB [91] x 91 (by decide) (by simp);have h0 : L_DecodeRuneInString [91] = some (91, 1) := by rfl
    unfold L_DecodeRuneInString Lib.decodeGo;have e2 : ¬ ((⟨(91 :: x).toArray⟩ : ByteArray).size = 0) := by
     show ¬ ((91 :: x : List By8).toArray.size = 0);simp
    rw [if_neg e2, Lib.decode_at];have : (⟨(91 :: x).toArray⟩ : ByteArray).get! 0 = 91 := by
     show ((91 :: x : List By8).toArray)[0]! = 91;simp
    rw [this]; rfl
   rw [hd, ba];have hp : CQ 91 = some false := by rfl
   simp only [hp, ba]
   exact stop o ho) FUEL (q, (n : Int)) (q ++ 91 :: x, (n : Int)) ⟨n, hn, rfl, rfl⟩ o ho trivial
 rw [ho', ba];obtain ⟨k, hk, rfl, rfl⟩ := hR;simp only at ha2 ⊢;clear ho ho';revert a;show LX _ _ _
 cases hkn : ((k : Int) == (n : Int)) with
 | true => rw [bb]; exact LX.bad
 | false =>
  rw [bc, bc];by_cases hnk : n <= k
  ·have hs : slc q (n : Int) (k : Int) = some ((q.drop n).take (k - n)) := by unfold slc; rw [if_pos (by omega)]; simp
   have hs' : slc (q ++ 91 :: x) (n : Int) (k : Int) = some ((q.drop n).take (k - n)) := by
    unfold slc; rw [if_pos (by omega), Int.toNat_natCast, Int.toNat_natCast, JI hn, List.take_append_of_le_length (by rw [List.length_drop]; omega)]
   rw [hs, hs', ba, ba];obtain ⟨b, s, s', m1, m2, m3, _⟩ := Nv (x := x) hq 123 (by decide) ⟨k, hk, rfl, rfl⟩;rw [m1, m2, ba, ba]
   cases b with
   | false =>
    obtain ⟨j, hj, rfl, rfl⟩ := m3;exact .ok ⟨rfl, j, hj, rfl, rfl⟩
   | true =>
    refine LX.bind (f := fun r => r) (W0 hq 125 m3 hx) fun y y' ⟨y1, y2⟩ => ?_;rw [y1]
    cases (y.1 == ([] : List By8)) with
    | true => rw [bb]; exact LX.bad
    | false =>
     obtain ⟨j, hj, e1, e2⟩ := y2;rw [bc, bc, e1, e2];exact .ok ⟨rfl, j, hj, rfl, rfl⟩
  ·have hs : slc q (n : Int) (k : Int) = none := by unfold slc; rw [if_neg (by omega)]
   rw [hs]; intro a ha; cases ha
theorem Ns (p : Int) (z : Bool) (h : Rx q x r r') (hx : x.length <= 1073741824) (hp : 0 <= p /\ p <= 100) : LX (A1 r p z) (A1 r' p z) fun y y' => y'.1 = y.1 /\ Rx q x y.2 y'.2 := by
 obtain ⟨n, hn, rfl, rfl⟩ := h;have hl2 : (q ++ 91 :: x).length = q.length + (x.length + 1) := by simp
 unfold A1;simp only [letJ];intro a ha;obtain ⟨o, ho, ha2⟩ := Option.bind_eq_some_iff.1 ha;clear ha;obtain ⟨o', ho', hR⟩ := Lu (b := A9 ⟨q, (n : Int)⟩ p z) (c := A9 ⟨q ++ 91 :: x, (n : Int)⟩ p z) (fun _ s s' => ∃ (k : Nat) (v : Int), k <= q.length /\ s = (q, (k : Int), v) /\ s' = (q ++ 91 :: x, (k : Int), v)) (fun _ => True)
  (fun s s' => ∃ (k : Nat) (v : Int), k <= q.length /\ s = (q, (k : Int), v) /\ s' = (q ++ 91 :: x, (k : Int), v)) (by
  rintro m _ _ ⟨k, v, hk, rfl, rfl⟩ hrec o ho _;generalize iter (A9 ⟨q, (n : Int)⟩ p z) m = rec at hrec ho;generalize iter (A9 ⟨q ++ 91 :: x, (n : Int)⟩ p z) m = rec' at hrec ⊢;unfold A9 at ho ⊢;simp only [letJ] at ho ⊢;have stop : ∀ o, (some (q, (k : Int), v) : Option (List By8 × Int × Int)) = some o -> ∃ o', (some (q ++ 91 :: x, (k : Int), v) : Option (List By8 × Int × Int)) = some o' /\ ∃ (k : Nat) (v : Int), k <= q.length /\ o = (q, (k : Int), v) /\ o' = (q ++ 91 :: x, (k : Int), v) := fun o h => by
   cases h; exact ⟨_, rfl, k, v, hk, rfl, rfl⟩
  by_cases hl : k < q.length
  ·rw [bf (show (k : Int) < ((q ++ 91 :: x).length : Int) by omega), bb, AD (l := q ++ 91 :: x) (i := k) (by omega), List.getElem_append_left hl];rw [bf (show (k : Int) < (q.length : Int) by omega), bb, AD hl] at ho;simp only [ba] at ho ⊢;rw [w64 (x := (k : Int) + 1) (by omega) (by omega)] at ho ⊢;have go := fun v => hrec (q, (k : Int) + 1, v) (q ++ 91 :: x, (k : Int) + 1, v) ⟨k + 1, v, by omega, by simp, by simp⟩;revert ho;cases decide ((k : Int) < IntKind.wrap .i64 ((n : Int) + p)) <;> cases decide ((48 : Int) <= (q[k].toNat : Int)) <;> cases decide ((q[k].toNat : Int) <= 57) <;> cases ((k : Int) == (n : Int)) <;> cases ((q[k].toNat : Int) == (48 : Int)) <;> cases z <;> first | exact stop o | exact fun h => go _ o h trivial
  ·have e : k = q.length := by omega
   subst e;rw [bg (by omega), bc, bc] at ho;rw [bf (show (q.length : Int) < ((q ++ 91 :: x).length : Int) by omega), bb, AD (l := q ++ 91 :: x) (i := q.length) (by omega)];have : (q ++ 91 :: x)[q.length]'(by omega) = 91 := by simp
   rw [this]
   cases decide ((q.length : Int) < IntKind.wrap .i64 ((n : Int) + p)) <;> exact stop o ho) FUEL (q, (n : Int), (0 : Int)) (q ++ 91 :: x, (n : Int), (0 : Int)) ⟨n, 0, hn, rfl, rfl⟩ o ho trivial
 rw [ho', ba];obtain ⟨k, v, hk, rfl, rfl⟩ := hR;simp only at ha2 ⊢;clear ho ho';revert a;show LX _ _ _
 cases hkn : ((k : Int) == (n : Int)) with
 | true => rw [bb]; exact LX.bad
 | false => exact .ok ⟨rfl, k, hk, rfl, rfl⟩
omit hq in
theorem UC (Q : List By8) (c : Int) : Ay ⟨Q, (Q.length : Int)⟩ c = some (false, ⟨Q, (Q.length : Int)⟩) := by
 unfold Ay AV;simp only [letJ];rw [bg (by omega)]; rfl
theorem Xx (x : List By8) : Ay ⟨q ++ 91 :: x, (q.length : Int)⟩ 91 = some (true, ⟨q ++ 91 :: x, (q.length : Int) + 1⟩) := by
 have hl2 : (q ++ 91 :: x).length = q.length + (x.length + 1) := by simp
 unfold Ay AV;simp only [letJ];rw [bf (by omega), bb, AD (l := q ++ 91 :: x) (i := q.length) (by omega), ba];have : (q ++ 91 :: x)[q.length]'(by omega) = 91 := by simp
 rw [this, w64 (by omega) (by omega)]; rfl
theorem Uu (h : Rx q x r r') (hx : x.length <= 1073741824) : LX (Bk r) (Bk r') fun y y' => y'.1 = y.1 /\ Rx q x y.2 y'.2 := by
 obtain ⟨b, s, s', m1, m2, m3, _⟩ := Nv hq 45 (by decide) h;unfold Bk;rw [m1, m2, ba, ba]
 cases b with
 | true => exact LX.bind (f := fun r => r) (Ns hq 7 true m3 hx (by omega)) fun y y' ⟨y1, y2⟩ => by rw [y1]; exact .ok ⟨rfl, y2⟩
 | false => exact LX.bind (f := fun r => r) (Ns hq 7 true m3 hx (by omega)) fun y y' ⟨y1, y2⟩ => by rw [y1]; exact .ok ⟨rfl, y2⟩
end

set_option linter.unusedSimpArgs false
set_option linter.unusedVariables false
set_option maxRecDepth 20000
section
variable {q x : List By8} (hq : q.length <= 1048576) (hx : x.length <= 1073741824) {r r' : Rd}
include hq hx
theorem Ab2 (h : Rx q x r r') : LX (A7 r) (A7 r') fun y y' => y'.1 = y.1 /\ Rx q x y.2 y'.2 := by
 unfold A7;simp only [letJ];obtain ⟨b, s, s', m1, m2, m3, _⟩ := Nv hq 64 (by decide) h;rw [m1, m2, ba, ba]
 cases b with
 | false =>
  refine LX.bind (f := fun r => r) (Ns hq 6 false m3 hx (by omega)) fun y y' ⟨y1, y2⟩ => ?_;rw [y1];exact LX.bind (f := fun r => r) (JA hq 93 (by decide) y2) fun z z' hz => .ok ⟨rfl, hz⟩
 | true =>
  refine LX.bind (f := fun r => r) (TF hq m3 hx) fun y y' ⟨y1, y2⟩ => ?_;rw [y1];obtain ⟨b, s, s', m1, m2, m3, _⟩ := Nv hq 61 (by decide) y2;rw [m1, m2, ba, ba]
  cases b with
  | true =>
   refine LX.bind (f := fun r => r) (JA hq 39 (by decide) m3) fun z z' hz => ?_;refine LX.bind (f := fun r => r) (W0 hq 39 hz hx) fun w w' ⟨w1, w2⟩ => ?_;rw [w1];exact LX.bind (f := fun r => r) (JA hq 93 (by decide) (r := ⟨w.2.q, w.2.at_⟩) (r' := ⟨w'.2.q, w'.2.at_⟩) w2) fun z z' hz => .ok ⟨rfl, hz⟩
  | false =>
   simp only [bc];obtain ⟨b, s, s', m1, m2, m3, _⟩ := Nv hq 126 (by decide) m3;rw [m1, m2, ba, ba]
   cases b with
   | true =>
    refine LX.bind (f := fun r => r) (Uu hq m3 hx) fun z z' ⟨z1, z2⟩ => ?_;rw [z1];refine LX.bind (f := fun r => r) (JA hq 44 (by decide) z2) fun w w' hw => ?_;refine LX.bind (f := fun r => r) (Uu hq hw hx) fun v v' ⟨v1, v2⟩ => ?_;rw [v1];exact LX.bind (f := fun r => r) (JA hq 93 (by decide) (r := ⟨v.2.q, v.2.at_⟩) (r' := ⟨v'.2.q, v'.2.at_⟩) v2) fun z z' hz => .ok ⟨rfl, hz⟩
   | false =>
    exact LX.bind (f := fun r => r) (JA hq 93 (by decide) (r := ⟨s.q, s.at_⟩) (r' := ⟨s'.q, s'.at_⟩) m3) fun z z' hz => .ok ⟨rfl, hz⟩
end
def CondAt (Q : List By8) (k : Int) (c : Ad) : Prop := (∃ r, A7 ⟨Q, k⟩ = some (.inl r)) \/ A7 ⟨Q, k⟩ = some (.inr (c, ⟨Q, (Q.length : Int)⟩))
def Px (st : Ai) (c : Ad) : Ai := { st with conds := st.conds ++ [c] }
def Sx (q x : List By8) (c : Ad) (y y' : Ai × Rd) : Prop :=
 (y'.1 = y.1 /\ Rx q x y.2 y'.2 /\ (y.2.at_ < q.length \/ y.1.attr = true)) \/
 (y.1.attr = false /\ y'.1 = Px y.1 c /\ y.2 = ⟨q, (q.length : Int)⟩ /\ y'.2 = ⟨q ++ 91 :: x, ((q ++ 91 :: x).length : Int)⟩)
def LY {A B : Type} (o : Option (Rd ⊕ A)) (o' : Option (Rd ⊕ B)) (R : A -> B -> Prop) : Prop := ∀ a, o = some (.inr a) -> (∃ r, o' = some (.inl r)) \/ ∃ b, o' = some (.inr b) /\ R a b
theorem LX.y {A B : Type} {o : Option (Rd ⊕ A)} {o' : Option (Rd ⊕ B)} {R : A -> B -> Prop} (h : LX o o' R) : LY o o' R := fun a ha => .inr (h a ha)
theorem LX.bindY {A B A' B' : Type} {o : Option (Rd ⊕ A)} {o' : Option (Rd ⊕ B)} {R : A -> B -> Prop} {k : A -> Option (Rd ⊕ A')} {k' : B -> Option (Rd ⊕ B')} {S : A' -> B' -> Prop} {f : Rd -> Rd} {f' : Rd -> Option (Rd ⊕ B')}
  (h : LX o o' R) (hk : ∀ a b, R a b -> LY (k a) (k' b) S) : LY (o.bind fun x => pnc x (fun r => some (.inl (f r))) k) (o'.bind fun x => pnc x f' k') S := by
 intro a ha
 cases ho : o with
 | none => rw [ho] at ha; cases ha
 | some v => cases v with
  | inl r => rw [ho] at ha; cases ha
  | inr v =>
   rw [ho] at ha;obtain ⟨b, hb, hR⟩ := h v ho;rw [hb];exact hk v b hR a ha
section
variable {q x : List By8} (hq : q.length <= 1048576) (hx : x.length <= 1048576) {c : Ad} (hc : CondAt (q ++ 91 :: x) ((q.length : Int) + 1) c) {r r' : Rd}
include hq hx hc
theorem ST (a3 a4 : Bool) (a5 a6 a7 : List By8) (h : Rx q x r r') {g : Bool × Bool × List By8 × List By8 × List By8 × List Ad × List By8 × Int}
  (ho : iter Ax FUEL (r.q, r.at_, a3, a4, a5, a6, a7, ([] : List Ad)) = some (.inl g)) :
  ∃ o', iter Ax FUEL (r'.q, r'.at_, a3, a4, a5, a6, a7, ([] : List Ad)) = some o' /\ ∃ (cs : List Ad) (z : Int), g = (a3, a4, a5, a6, a7, cs, q, z) /\
   ((∃ n : Nat, n < q.length /\ z = (n : Int) /\ o' = .inl (a3, a4, a5, a6, a7, cs, q ++ 91 :: x, z)) \/ (z = (q.length : Int) /\ ((∃ r, o' = .inr (.inl r)) \/ o' = .inl (a3, a4, a5, a6, a7, cs ++ [c], q ++ 91 :: x, ((q ++ 91 :: x).length : Int))))) := by
 have hl2 : (q ++ 91 :: x).length = q.length + (x.length + 1) := by simp
 obtain ⟨o', e, hR⟩ := Lu (b := Ax) (c := Ax)
  (fun m y y' => ∃ (k : Nat) (cs : List Ad), k <= q.length /\ cs.length <= k /\ FUEL <= m + k /\ y = (q, (k : Int), a3, a4, a5, a6, a7, cs) /\ y' = (q ++ 91 :: x, (k : Int), a3, a4, a5, a6, a7, cs)) (fun o => ∃ y, o = .inl y)
  (fun o o' => ∃ (cs : List Ad) (z : Int), o = .inl (a3, a4, a5, a6, a7, cs, q, z) /\
   ((∃ n : Nat, n < q.length /\ z = (n : Int) /\ o' = .inl (a3, a4, a5, a6, a7, cs, q ++ 91 :: x, z)) \/ (z = (q.length : Int) /\ ((∃ r, o' = .inr (.inl r)) \/ o' = .inl (a3, a4, a5, a6, a7, cs ++ [c], q ++ 91 :: x, ((q ++ 91 :: x).length : Int)))))) (by
  rintro m _ _ ⟨k, cs, hk, hcl, hf, rfl, rfl⟩ hrec o ho ⟨g, rfl⟩;by_cases hl : k < q.length
  ·obtain ⟨b, s, s', m1, m2, ⟨n', hn', rfl, rfl⟩, m4, m5⟩ := Ab8 (x := x) hq 91 (.inr (by simp only; omega)) ⟨k, hk, rfl, rfl⟩;simp only at m5;unfold Ax at ho ⊢;dsimp only at ho ⊢;rw [m1, ba] at ho;rw [m2, ba]
   cases b with
   | false =>
    have := m4 rfl;injection this with _ e
    obtain rfl : n' = k := by omega
    rw [bc] at ho ⊢;cases ho;exact ⟨_, rfl, cs, _, rfl, .inl ⟨n', hl, rfl, rfl⟩⟩
   | true =>
    rw [bb] at ho ⊢;obtain ⟨v, hv, hp⟩ := TW hq (lo := (n' : Int)) (by omega) (r := ⟨q, (n' : Int)⟩) ⟨rfl, Int.le_refl _, by simp only; omega⟩;rw [hv, ba] at ho
    cases v with
    | inl r => cases ho
    | inr y =>
     obtain ⟨y', hy', y1, n2, hn2, y2, y3⟩ := Ab2 (x := x) hq (by omega) ⟨n', hn', rfl, rfl⟩ y hv;have hlo := hp.1.lo;rw [y2] at hlo;simp only at hlo;rw [hy', ba];show ∃ o', ((app 80 cs [y'.1]).bind fun _ => iter Ax m (y'.2.q, y'.2.at_, a3, a4, a5, a6, a7, cs ++ [y'.1])) = some o' /\ _;have ho' : ((app 80 cs [y.1]).bind fun _ => iter Ax m (y.2.q, y.2.at_, a3, a4, a5, a6, a7, cs ++ [y.1])) = some (.inl g) := ho;have hA : app 80 cs [y.1] = some (cs ++ [y.1]) := Ce (by simp only [bi, bj]; omega) (by simp only [bi, bj]; omega);rw [y1, y3, hA, ba];rw [y2, hA, ba] at ho';exact hrec _ _ ⟨n2, cs ++ [y.1], hn2, by rw [bk, List.length_singleton]; omega, by omega, rfl, rfl⟩ _ ho' ⟨_, rfl⟩
  ·obtain rfl : k = q.length := by omega
   unfold Ax at ho ⊢;dsimp only at ho ⊢;rw [UC, ba, bc] at ho;rw [Xx hq, ba, bb];cases ho;dsimp only;rcases hc with ⟨e, he⟩ | he
   ·rw [he, ba];exact ⟨_, rfl, cs, _, rfl, .inr ⟨rfl, .inl ⟨e, rfl⟩⟩⟩
   ·rw [he, ba];show ∃ o', ((app 80 cs [c]).bind fun _ => iter Ax m (q ++ 91 :: x, ((q ++ 91 :: x).length : Int), a3, a4, a5, a6, a7, cs ++ [c])) = some o' /\ _;rw [Ce (by simp only [bi, bj]; omega) (by simp only [bi, bj]; omega), ba];obtain ⟨m', rfl⟩ : ∃ m', m = m' + 1 := ⟨m - 1, by unfold FUEL at hf; omega⟩
    refine ⟨.inl (a3, a4, a5, a6, a7, cs ++ [c], q ++ 91 :: x, ((q ++ 91 :: x).length : Int)), ?_, cs, _, rfl, .inr ⟨rfl, .inr rfl⟩⟩;show Ax (iter Ax m') _ = _;generalize iter Ax m' = rec;unfold Ax;dsimp only;rw [UC, ba]
    rfl) FUEL (r.q, r.at_, a3, a4, a5, a6, a7, ([] : List Ad)) (r'.q, r'.at_, a3, a4, a5, a6, a7, ([] : List Ad)) (by
   obtain ⟨n, hn, rfl, rfl⟩ := h
   exact ⟨n, [], hn, Nat.zero_le _, by omega, rfl, rfl⟩) _ ho ⟨_, rfl⟩
 obtain ⟨cs, z, h1, h2⟩ := hR;injection h1 with h1
 exact ⟨o', e, cs, z, h1, h2⟩
omit hq hx hc in
theorem LY.letJ {V V' A B : Type} {J : V -> Option (Rd ⊕ A)} {J' : V' -> Option (Rd ⊕ B)} {k : (V -> Option (Rd ⊕ A)) -> Option (Rd ⊕ A)} {k' : (V' -> Option (Rd ⊕ B)) -> Option (Rd ⊕ B)} {S : A -> B -> Prop} (P : V -> V' -> Prop)
  (hJ : ∀ v v', P v v' -> LY (J v) (J' v') S) (hk : ∀ J J', (∀ v v', P v v' -> LY (J v) (J' v') S) -> LY (k J) (k' J') S) : LY (letJ J k) (letJ J' k') S := hk J J' hJ
theorem Abe (h : Rx q x r r') : LY (AP r) (AP r') (Sx q x c) := by
 have hx' : x.length <= 1073741824 := by omega
 unfold AP;refine LX.bindY (f := fun r => r) (JA hq 47 (by decide) h) fun x4 x4' hx4 => ?_;obtain ⟨b6, s6, s6', m1, m2, m3, _⟩ := Nv hq 47 (by decide) hx4;rw [m1, m2, ba, ba];have tail : ∀ (dp : Bool) (s s' : List By8) (z z' : Int) (t u l : List By8), Rx q x ⟨s, z⟩ ⟨s', z'⟩ -> LY ((iter Ax FUEL (s, z, dp, false, t, u, l, ([] : List Ad))).bind fun o => match o with | .inl o1 => (match o1 with | (a109, a110, a111, a112, a113, a114, a116, a117) => some (.inr ((⟨a109, a110, a111, (⟨a112, a113⟩ : Aa), a114⟩ : Ai), (⟨a116, a117⟩ : Af)))) | .inr o1 => some o1)
   ((iter Ax FUEL (s', z', dp, false, t, u, l, ([] : List Ad))).bind fun o => match o with | .inl o1 => (match o1 with | (a109, a110, a111, a112, a113, a114, a116, a117) => some (.inr ((⟨a109, a110, a111, (⟨a112, a113⟩ : Aa), a114⟩ : Ai), (⟨a116, a117⟩ : Af)))) | .inr o1 => some o1) (Sx q x c) := by
  intro dp s s' z z' t u l hr a ha;obtain ⟨o, ho, ha⟩ := Option.bind_eq_some_iff.1 ha;obtain ⟨o0, e0, h0⟩ := Tn hq dp false t u l 0 (by omega) ⟨s, z⟩ (by obtain ⟨n, hn, h1, h2⟩ := hr; rw [h1]; exact ⟨rfl, by simp only; omega, by simp only; omega⟩);simp only at e0;rw [ho] at e0;cases e0;rcases o with g | (r' | y)
  ·obtain ⟨o', e', cs, z2, rfl, h2⟩ := ST hq hx hc dp false t u l hr ho;simp only at e' ha;cases ha;rcases h2 with ⟨n, h3, h4, h5⟩ | ⟨h3, ⟨r, h4⟩ | h4⟩
   ·refine .inr ⟨(⟨dp, false, t, ⟨u, l⟩, cs⟩, ⟨q ++ 91 :: x, z2⟩), by rw [e', h5]; rfl, .inl ⟨rfl, ⟨n, by omega, by rw [h4], by rw [h4]⟩, .inl ?_⟩⟩;simp only; omega
   ·exact .inl ⟨r, by rw [e', h4]; rfl⟩
   ·exact .inr ⟨(⟨dp, false, t, ⟨u, l⟩, cs ++ [c]⟩, ⟨q ++ 91 :: x, ((q ++ 91 :: x).length : Int)⟩), by rw [e', h4]; rfl, .inr ⟨rfl, rfl, by rw [h3], rfl⟩⟩
  ·cases ha
  ·exact h0.elim
 refine LY.letJ (fun v v' => v'.2.2 = v.2.2 /\ Rx q x ⟨v.1, v.2.1⟩ ⟨v'.1, v'.2.1⟩) ?_ fun J J' hJ => ?_
 ·rintro ⟨s, z, at_⟩ ⟨s', z', at'⟩ ⟨h1, hr⟩;simp only at h1 hr;subst h1;simp only
  cases at' with
  | true =>
   rw [bb, bb];refine LY.letJ (fun v v' => v'.1 = v.1 /\ v'.2.1 = v.2.1 /\ v'.2.2.1 = v.2.2.1 /\ Rx q x ⟨v.2.2.2.1, v.2.2.2.2⟩ ⟨v'.2.2.2.1, v'.2.2.2.2⟩) ?_ fun J J' hJ => ?_
   ·rintro ⟨a, b, c, s, z⟩ ⟨a', b', c', s', z'⟩ ⟨h1, h2, h3, hr⟩;simp only at h1 h2 h3 hr;subst h1 h2 h3;exact LX.y (.ok (.inl ⟨rfl, hr, .inr rfl⟩))
   ·obtain ⟨b, s, s', m1, m2, m3, _⟩ := Nv hq 42 (by decide) hr;rw [m1, m2, ba, ba]
    cases b with
    | true => exact hJ _ _ ⟨rfl, rfl, rfl, m3⟩
    | false => exact LX.bindY (f := fun r => r) (TF hq m3 hx') fun y y' ⟨y1, y2⟩ => hJ _ _ ⟨rfl, by rw [y1], by rw [y1], y2⟩
  | false =>
   rw [bc, bc];refine LY.letJ (fun v v' => v'.2.2 = v.2.2 /\ Rx q x ⟨v.1, v.2.1⟩ ⟨v'.1, v'.2.1⟩) ?_ fun J J' hJ => ?_
   ·rintro ⟨s, z, t, u, l⟩ ⟨s', z', t', u', l'⟩ ⟨h1, hr⟩;simp only at h1 hr;cases h1;exact tail b6 s s' z z' t u l hr
   ·obtain ⟨b, s, s', m1, m2, m3, _⟩ := Nv hq 42 (by decide) hr;rw [m1, m2, ba, ba]
    cases b with
    | true => exact hJ _ _ ⟨rfl, m3⟩
    | false =>
     refine LX.bindY (f := fun r => r) (TF hq m3 hx') fun y y' ⟨y1, hy⟩ => ?_;rw [y1];refine LY.letJ (fun v v' => v' = v) (fun v v' hv => ?_) fun J2 J2' hJ2 => ?_
     ·subst hv
      cases (v' && (((y.1.Local == ([116, 101, 120, 116] : List By8)) || (y.1.Local == ([99, 111, 109, 109, 101, 110, 116] : List By8))) || (y.1.Local == ([110, 111, 100, 101] : List By8)))) with
      | true =>
       refine LX.bindY (f := fun r => r) (JA hq 40 (by decide) hy) fun w w' hw => ?_;exact LX.bindY (f := fun r => r) (JA hq 41 (by decide) hw) fun v v' hv => hJ _ _ ⟨rfl, hv⟩
      | false => exact hJ _ _ ⟨rfl, hy⟩
     ·obtain ⟨b, hb, hb', _⟩ := W2 40 (by decide) hy
      cases ((y.1.URI == (⟨([] : List By8), y.1.Local⟩ : Aa).URI) && ((y.1.Local == (⟨([] : List By8), y.1.Local⟩ : Aa).Local) && true)) with
      | true => rw [bb, bb, hb, hb', ba, ba]; exact hJ2 _ _ rfl
      | false => exact hJ2 _ _ rfl
 ·cases b6 with
  | false =>
   obtain ⟨b, s, s', m1, m2, m3, _⟩ := Nv hq 64 (by decide) m3;simp only [Bool.not_false, bb];rw [m1, m2, ba, ba];exact hJ _ _ ⟨rfl, m3⟩
  | true => exact hJ _ _ ⟨rfl, m3⟩
end

set_option linter.unusedSimpArgs false
set_option linter.unusedVariables false
set_option maxRecDepth 20000
def OV (l : List Ai) : Bool := match l.getLast? with
 | some st => st.attr
 | none => false
theorem RD (l : List Ai) (st : Ai) : OV (l ++ [st]) = st.attr := by unfold OV; rw [List.getLast?_concat]
abbrev RdR := List Ai ⊕ (Int ⊕ (List Ai × Int × Int))
theorem Lz (q : List By8) (rec : List Ai × List By8 × Int -> Option RdR) (l : List Ai) (s : List By8) (z : Int) (hl : l.length <= 1048577) :
  B9 q rec (l, s, z) = cond (l.isEmpty || decide (z < (q.length : Int))) (cond (OV l) (some (.inr (.inl z))) ((AP ⟨s, z⟩).bind fun x => pnc x (fun r => some (.inr (.inl r.at_))) fun y => rec (l ++ [y.1], y.2.q, y.2.at_))) (some (.inl l)) := by
 have e0 : ∀ y : Ai × Af, ((app 80 l [y.1]).bind fun _ => rec (l ++ [y.1], y.2.q, y.2.at_)) = rec (l ++ [y.1], y.2.q, y.2.at_) := fun y => by
  rw [Ce (by simp only [bi, bj]; omega) (by simp only [bi, bj]; omega), ba]
 unfold B9;simp only [letJ, e0]
 cases l with
 | nil => rfl
 | cons st l =>
  have h1 : (((st :: l).length : Int) == 0) = false := by rw [beq_eq_false_iff_ne]; simp only [bi]; omega
  have h2 : decide ((0 : Int) < ((st :: l).length : Int)) = true := bf (by simp only [bi]; omega);have h3 : idx (st :: l) (IntKind.wrap .i64 (((st :: l).length : Int) - 1)) = some ((st :: l).getLast (by simp)) := by
   rw [w64 (by omega) (by omega), show ((st :: l).length : Int) - 1 = (((st :: l).length - 1 : Nat) : Int) by simp, AD (by simp : (st :: l).length - 1 < (st :: l).length), List.getLast_eq_getElem]
  have h4 : OV (st :: l) = ((st :: l).getLast (by simp)).attr := by unfold OV; rw [List.getLast?_eq_some_getLast (by simp)]
  rw [h1, h2, h3, h4];simp only [bc, bb, ba, List.isEmpty_cons, Bool.false_or];cases decide (z < (q.length : Int)) <;> cases ((st :: l).getLast (by simp)).attr <;> rfl
theorem Q1 (q : List By8) (hq : q.length <= 1048576) {S : List Ai} {a : Int} (hr : BQ q = some (S, a, 0)) : iter (B9 q) FUEL (([] : List Ai), q, (0 : Int)) = some (.inl S) := by
 obtain ⟨o, e, ho⟩ := OS q hq;unfold BQ EU at hr;simp only [letJ] at hr;rw [e, ba] at hr;rcases o with l | (z | y)
 ·simp only at hr;revert hr
  cases decide ((20 : Int) < (l.length : Int)) with
  | true => intro h; exfalso; revert h; simp [rdO]
  | false =>
   intro h;have h : some (l, (0 : Int), (0 : Int)) = some (S, a, 0) := h;injection h with h; injection h with h _
   rw [e, h]
 ·exfalso; revert hr; simp [rdO]
 ·exact ho.elim
section
variable {q x : List By8} (hq : q.length <= 1048576) (hx : (q ++ 91 :: x).length <= 1048576) {c : Ad} (hc : CondAt (q ++ 91 :: x) ((q.length : Int) + 1) c)
include hq hx hc
theorem Xn {S S' : List Ai} {a a' : Int} (hr : BQ q = some (S, a, 0)) (hr' : BQ (q ++ 91 :: x) = some (S', a', 0)) :
  ∃ S0 st, S = S0 ++ [st] /\ st.attr = false /\ S' = S0 ++ [Px st c] := by
 have hl2 : (q ++ 91 :: x).length = q.length + (x.length + 1) := by simp
 have hx2 : x.length <= 1048576 := by omega
 have ho := Q1 q hq hr;have ho' := Q1 _ hx hr';obtain ⟨o2, e2, hR⟩ := Lu (b := B9 q) (c := B9 (q ++ 91 :: x))
  (fun m y y' => y.2.1 = q /\ y'.2.1 = q ++ 91 :: x /\ FUEL <= m + y.1.length /\ y.1.length <= q.length + 1 /\ ((y'.1 = y.1 /\ ∃ n : Nat, n <= q.length /\ y.1.length <= n /\ y.2.2 = (n : Int) /\ y'.2.2 = (n : Int) /\ (n = q.length -> y.1 = [] \/ OV y.1 = true)) \/
   (y.2.2 = (q.length : Int) /\ y'.2.2 = ((q ++ 91 :: x).length : Int) /\ ∃ S0 st, st.attr = false /\ y.1 = S0 ++ [st] /\ y'.1 = S0 ++ [Px st c])))
  (fun o => ∃ y, o = .inl y)
  (fun o o' => (∃ z, o' = .inr (.inl z)) \/ ∃ S0 st, st.attr = false /\ o = .inl (S0 ++ [st]) /\ o' = .inl (S0 ++ [Px st c])) (by
  rintro m ⟨l, s, z⟩ ⟨l', s', z'⟩ ⟨h1, h2, hf, hlen, hI⟩ hrec o ho ⟨g, rfl⟩;simp only at h1 h2 hf hlen hI;subst h1 h2;rw [Lz _ _ _ _ _ (by omega)] at ho;rcases hI with ⟨rfl, n, hn, hln, rfl, rfl, hlast⟩ | ⟨rfl, rfl, S0, st, hst, rfl, rfl⟩
  ·rw [Lz _ _ _ _ _ (by omega)];by_cases hnq : n = s.length /\ l' ≠ []
   ·have hA : OV l' = true := (hlast hnq.1).resolve_left hnq.2;rw [hA, bb, bf (by omega), Bool.or_true, bb];exact ⟨_, rfl, .inl ⟨_, rfl⟩⟩
   ·have hb : (l'.isEmpty || decide ((n : Int) < (s.length : Int))) = true := by
     by_cases hE : l' = []
     ·subst hE; rfl
     ·have hns : n ≠ s.length := fun h => hnq ⟨h, hE⟩;rw [bf (by omega), Bool.or_true]
    have hb' : (l'.isEmpty || decide ((n : Int) < ((s ++ 91 :: x).length : Int))) = true := by rw [bf (by omega), Bool.or_true]
    rw [hb, bb] at ho;rw [hb', bb]
    cases hA : OV l' with
    | true => rw [hA, bb] at ho; cases ho
    | false =>
     rw [hA, bc] at ho;rw [bc];have hrx : Rx s x ⟨s, (n : Int)⟩ ⟨s ++ 91 :: x, (n : Int)⟩ := ⟨n, hn, rfl, rfl⟩
     obtain ⟨v, hv, hp⟩ := SN hq (lo := (n : Int)) (by omega) (r := ⟨s, (n : Int)⟩) ⟨rfl, Int.le_refl _, by simp only; omega⟩;rw [hv, ba] at ho
     cases v with
     | inl r => cases ho
     | inr y =>
      have hlo := hp.1.lo;rcases Abe hq hx2 hc hrx y hv with ⟨r, hr⟩ | ⟨y', hy', hS⟩
      ·rw [hr, ba];exact ⟨_, rfl, .inl ⟨_, rfl⟩⟩
      ·rw [hy', ba];refine hrec _ _ ⟨hp.1.eq, ?_, by simp only [bk, List.length_singleton]; omega, by simp only [bk, List.length_singleton]; omega, ?_⟩ _ ho ⟨_, rfl⟩
       ·rcases hS with ⟨h1, ⟨k, hk, e1, e2⟩, h3⟩ | ⟨h1, h2, h3, h4⟩
        ·rw [e2]
        ·rw [h4]
       ·rcases hS with ⟨h1, ⟨k, hk, e1, e2⟩, h3⟩ | ⟨h1, h2, h3, h4⟩
        ·refine .inl ⟨by rw [h1], k, hk, ?_, by rw [e1], by rw [e2], fun h => .inr ?_⟩
         ·rw [e1] at hlo;simp only [bk, List.length_singleton] at hlo ⊢; omega
         ·rw [RD];refine h3.resolve_left ?_;rw [e1]; simp only; omega
        ·exact .inr ⟨by rw [h3], by rw [h4], l', y.1, h1, rfl, by rw [h2]⟩
  ·have hne : ∀ (L : List Ai) (t : Ai), (L ++ [t]).isEmpty = false := fun L t => by cases L <;> rfl
   rw [Lz _ _ _ _ _ (by simp only [bk, List.length_singleton] at hlen ⊢; omega), hne, bg (by omega)];rw [hne, bg (by omega)] at ho;refine ⟨_, rfl, .inr ⟨S0, st, hst, ?_, rfl⟩⟩;have ho : some (Sum.inl (S0 ++ [st])) = some (Sum.inl g) := ho
   cases ho; rfl) FUEL (([] : List Ai), q, (0 : Int)) (([] : List Ai), q ++ 91 :: x, (0 : Int)) ⟨rfl, rfl, by simp, by simp, .inl ⟨rfl, 0, Nat.zero_le _, by simp, rfl, rfl, fun _ => .inl rfl⟩⟩ _ ho ⟨_, rfl⟩
 rw [ho'] at e2;injection e2 with e2
 rcases hR with ⟨z, hz⟩ | ⟨S0, st, hst, h1, h2⟩
 ·rw [<- e2] at hz; cases hz
 ·rw [<- e2] at h2;injection h1 with h1
  injection h2 with h2
  exact ⟨S0, st, h1, hst, h2⟩
end

set_option linter.unusedSimpArgs false
set_option linter.unusedVariables false
set_option maxRecDepth 20000
section
variable {Q : List By8} (hQ : Q.length <= 8388608)
theorem Hw {k : Nat} {b : By8} {B : List By8} (h : Q.drop k = b :: B) : ∃ hk : k < Q.length, Q[k] = b /\ Q.drop (k + 1) = B := by
 have hk : k < Q.length := by
  apply Classical.byContradiction; intro hn;rw [List.drop_eq_nil_of_le (by omega)] at h; cases h
 refine ⟨hk, ?_, ?_⟩
 ·rw [List.drop_eq_getElem_cons hk] at h; injection h
 ·rw [List.drop_eq_getElem_cons hk] at h; injection h
theorem Tb {k : Nat} {b : By8} {B : List By8} (h : Q.drop k = b :: B) (c : Int) : AV ⟨Q, (k : Int)⟩ c = some ((b.toNat : Int) == c) := by
 obtain ⟨hk, e, _⟩ := Hw h;unfold AV;simp only [letJ];rw [bf (by omega), bb, AD hk, e]; rfl
include hQ
theorem OD {k : Nat} {b : By8} {B : List By8} (h : Q.drop k = b :: B) (c : Int) : Ay ⟨Q, (k : Int)⟩ c = some (if (b.toNat : Int) = c then (true, ⟨Q, ((k + 1 : Nat) : Int)⟩) else (false, ⟨Q, (k : Int)⟩)) := by
 obtain ⟨hk, e, _⟩ := Hw h;unfold Ay;rw [Tb h c, ba];by_cases hc : (b.toNat : Int) = c
 ·rw [if_pos hc, show ((b.toNat : Int) == c) = true by rw [hc]; simp, bb, w64 (x := (k : Int) + 1) (by omega) (by omega)]; rfl
 ·rw [if_neg hc, show ((b.toNat : Int) == c) = false by rw [beq_eq_false_iff_ne]; exact hc, bc]
theorem TO {k : Nat} {b : By8} {B : List By8} (h : Q.drop k = b :: B) (c : Int) (hc : (b.toNat : Int) = c) : AC ⟨Q, (k : Int)⟩ c = some (.inr ⟨Q, ((k + 1 : Nat) : Int)⟩) := by
 obtain ⟨hk, e, _⟩ := Hw h;unfold AC;simp only [letJ];rw [Tb h c, ba, show ((b.toNat : Int) == c) = true by rw [hc]; simp, Bool.not_true, bc, w64 (x := (k : Int) + 1) (by omega) (by omega)]; rfl
omit hQ in
theorem YB {k : Nat} {b : By8} {B : List By8} (h : Q.drop k = b :: B) (c : Int) (hc : (b.toNat : Int) ≠ c) : ∃ r, AC ⟨Q, (k : Int)⟩ c = some (.inl r) := by
 unfold AC;simp only [letJ];rw [Tb h c, ba, show ((b.toNat : Int) == c) = false by rw [beq_eq_false_iff_ne]; exact hc, Bool.not_false, bb];exact ⟨_, rfl⟩
theorem WM {k : Nat} {u B : List By8} {b : By8} (h : Q.drop k = u ++ b :: B) (hu : b ∉ u) : AQ ⟨Q, (k : Int)⟩ (b.toNat : Int) = some (.inr (u, ⟨Q, ((k + u.length + 1 : Nat) : Int)⟩)) := by
 have hl : Q.length = k + (u.length + (B.length + 1)) := by
  have := congrArg List.length h;rw [List.length_drop] at this;simp at this; omega
 unfold AQ;simp only [letJ];rw [DT (by omega), ba];unfold L_IndexByte;have hi : Lib.indexByte (Q.drop k) (b.toNat : Int).toNat.toUInt8 = (u.length : Int) := by
  rw [show ((b.toNat : Int)).toNat.toUInt8 = b by simp, h];have hge := Lib.indexByte_ge (u ++ b :: B) b;have g1 : (u ++ b :: B)[u.length]? = some b := by simp
  by_cases he : Lib.indexByte (u ++ b :: B) b = -1
  ·exact absurd g1 (Lib.indexByte_none he _)
  ·obtain ⟨j, hj⟩ : ∃ j : Nat, Lib.indexByte (u ++ b :: B) b = (j : Int) := ⟨(Lib.indexByte (u ++ b :: B) b).toNat, by omega⟩
   obtain ⟨j1, j2⟩ := Lib.indexByte_some hj;rw [hj];rcases Nat.lt_trichotomy j u.length with hh | hh | hh
   ·rw [List.getElem?_append_left hh] at j1;exact absurd (List.mem_of_getElem? j1) hu
   ·rw [hh]
   ·exact absurd g1 (j2 _ hh)
 rw [ba, hi, bg (by omega), bc];rw [w64 (x := (u.length : Int) + 1) (by omega) (by omega), w64 (by omega) (by omega), w64 (by omega) (by omega)];unfold slc;rw [if_pos (by omega), ba];have e1 : (Q.drop (k : Int).toNat).take (((k : Int) + (u.length : Int)).toNat - (k : Int).toNat) = u := by
  rw [Int.toNat_natCast, h, show ((k : Int) + (u.length : Int)).toNat - k = u.length by omega, List.take_left'];rfl
 rw [e1];congr 4
end
def EndB (c : By8) : Prop := c = 93 \/ c = 123 \/ c = 61
theorem VM {z : By8} (h : EndB z) : CQ (z.toNat : Int) = some false /\ z.toNat < 128 := by
 rcases h with rfl | rfl | rfl <;> exact ⟨rfl, by decide⟩
def NoEnd (loc : List By8) : Prop := ∀ c ∈ loc, c ≠ 93 /\ c ≠ 123 /\ c ≠ 61 /\ c ≠ 126
theorem Up (z : By8) (t : List By8) (h : z.toNat < 128) : L_DecodeRuneInString (z :: t) = some ((z.toNat : Int), 1) := by
 unfold L_DecodeRuneInString Lib.decodeGo;have e2 : ¬ ((⟨(z :: t).toArray⟩ : ByteArray).size = 0) := by
  show ¬ ((z :: t : List By8).toArray.size = 0);simp
 rw [if_neg e2, Lib.decode_at];have : (⟨(z :: t).toArray⟩ : ByteArray).get! 0 = z := by
  show ((z :: t : List By8).toArray)[0]! = z;simp
 rw [this];unfold Lib.decodeN;rw [if_pos h]; rfl
section
variable {Q : List By8} (hQ : Q.length <= 8388608) {k : Nat} {loc tl : List By8} {z : By8} (h : Q.drop k = loc ++ z :: tl) (hz : EndB z) (hloc : NoEnd loc)
include hQ h hz
theorem Ts : ∃ a : Nat, a <= loc.length /\ iter (AL ⟨Q, (k : Int)⟩) FUEL (Q, (k : Int)) = some (Q, ((k + a : Nat) : Int)) := by
 have hl : Q.length = k + (loc.length + (tl.length + 1)) := by
  have := congrArg List.length h;rw [List.length_drop] at this;simp at this; omega
 have hd : ∀ a, a <= loc.length -> Q.drop (k + a) = loc.drop a ++ z :: tl := fun a ha => by
  rw [<- List.drop_drop, h, List.drop_append, show a - loc.length = 0 by omega, List.drop_zero]
 obtain ⟨hp, hz8⟩ := VM hz;have atEnd : ∀ rec, AL ⟨Q, (k : Int)⟩ rec (Q, ((k + loc.length : Nat) : Int)) = some (Q, ((k + loc.length : Nat) : Int)) := fun rec => by
  unfold AL;simp only [letJ];rw [bf (by omega), bb, DT (by omega), ba, hd _ (Nat.le_refl _), List.drop_length, List.nil_append, Up z tl hz8, ba];simp only [hp, ba];cases (((z.toNat : Int) == (65533 : Int)) && (decide ((1 : Int) < (3 : Int)))) <;> rfl
 obtain ⟨o, e, hR⟩ := AW (b := AL ⟨Q, (k : Int)⟩) (fun i x => ∃ a : Nat, i <= a /\ a <= loc.length /\ x = (Q, ((k + a : Nat) : Int))) (fun o => ∃ a : Nat, a <= loc.length /\ o = (Q, ((k + a : Nat) : Int))) loc.length (x0 := (Q, (k : Int))) ⟨0, Nat.le_refl _, Nat.zero_le _, rfl⟩ (by
  rintro i _ rec hi ⟨a, h1, h2, rfl⟩;by_cases ha : a = loc.length
  ·subst ha; exact .inr ⟨_, atEnd rec, _, Nat.le_refl _, rfl⟩
  ·have hne : loc.drop a ≠ [] := by intro h; have := congrArg List.length h; simp at this; omega
   obtain ⟨rn, w, hdw, w1, w2⟩ := YL (loc.drop a) hne;have hd2 := PB (loc.drop a) tl z hz8 hne;rw [List.length_drop] at w2;obtain ⟨b1, hb1⟩ := Hz (rn : Int);obtain ⟨b2, hb2⟩ := FA (rn : Int);unfold AL;simp only [letJ];rw [bf (by omega), bb, DT (by omega), ba, hd a h2, hd2, hdw, ba, w64 (by omega) (by omega), hb1, hb2];simp only [ba];have hs : ∃ o, (some (Q, ((k + a : Nat) : Int)) : Option (List By8 × Int)) = some o /\ ∃ a : Nat, a <= loc.length /\ o = (Q, ((k + a : Nat) : Int)) := ⟨_, rfl, a, h2, rfl⟩
   have hg : ∃ y : List By8 × Int, rec (Q, ((k + a : Nat) : Int) + (w : Int)) = rec y /\ ∃ a : Nat, i + 1 <= a /\ a <= loc.length /\ y = (Q, ((k + a : Nat) : Int)) := ⟨_, rfl, a + w, by omega, by omega, by congr 1; omega⟩
   cases (((rn : Int) == (65533 : Int)) && (decide ((w : Int) < (3 : Int)))) <;> cases b1 <;> cases b2 <;> cases (((k + a : Nat) : Int) == (k : Int)) <;> first | exact .inr hs | exact .inl hg) (by
  rintro _ rec ⟨a, h1, h2, rfl⟩;obtain rfl : a = loc.length := by omega
  exact ⟨_, atEnd rec, _, Nat.le_refl _, rfl⟩) (n := FUEL) (by unfold FUEL; omega)
 obtain ⟨a, ha, rfl⟩ := hR;exact ⟨a, ha, e⟩
include hloc
theorem Uo {uri T : List By8} (hT : (z ≠ 123 /\ uri = [] /\ T = z :: tl) \/ (z = 123 /\ uri ≠ [] /\ 125 ∉ uri /\ tl = uri ++ 125 :: T)) :
  (∃ r, AH ⟨Q, (k : Int)⟩ = some (.inl r)) \/
  (∃ (nm : Aa) (p : Nat) (b : By8) (B : List By8), AH ⟨Q, (k : Int)⟩ = some (.inr (nm, ⟨Q, (p : Int)⟩)) /\ Q.drop p = b :: B /\ b ≠ 93 /\ b ≠ 61 /\ b ≠ 126) \/
  ∃ p : Nat, AH ⟨Q, (k : Int)⟩ = some (.inr (⟨uri, loc⟩, ⟨Q, (p : Int)⟩)) /\ Q.drop p = T := by
 have hl : Q.length = k + (loc.length + (tl.length + 1)) := by
  have := congrArg List.length h;rw [List.length_drop] at this;simp at this; omega
 have hd : ∀ a, a <= loc.length -> Q.drop (k + a) = loc.drop a ++ z :: tl := fun a ha => by
  rw [<- List.drop_drop, h, List.drop_append, show a - loc.length = 0 by omega, List.drop_zero]
 obtain ⟨a, ha, e⟩ := Ts hQ h hz;unfold AH;simp only [letJ];rw [e, ba];by_cases ha0 : a = 0
 ·subst ha0;left;simp only [Nat.add_zero, beq_self_eq_true, bb];exact ⟨_, rfl⟩
 ·right;simp only;rw [show ((((k + a : Nat) : Int)) == (k : Int)) = false by rw [beq_eq_false_iff_ne]; omega, bc];have hs : slc Q (k : Int) ((k + a : Nat) : Int) = some (loc.take a) := by
   unfold slc;rw [if_pos (by omega), Int.toNat_natCast, Int.toNat_natCast, h, show k + a - k = a by omega, List.take_append_of_le_length ha]
  rw [hs, ba];by_cases hal : a < loc.length
  ·left;have hda := hd a ha;rw [List.drop_eq_getElem_cons hal, List.cons_append] at hda;obtain ⟨n1, n2, n3, n4⟩ := hloc _ (bm hal)
   have hb : (loc[a].toNat : Int) ≠ 123 := fun hh => n2 (by
    apply UInt8.toNat_inj.1;show loc[a].toNat = 123
    omega)
   rw [OD hQ hda, ba, if_neg hb];exact ⟨_, k + a, _, _, rfl, hda, n1, n3, n4⟩
  ·obtain rfl : a = loc.length := by omega
   right;have hda := hd loc.length (Nat.le_refl _);rw [List.drop_length, List.nil_append] at hda;rw [OD hQ hda, ba, List.take_length];rcases hT with ⟨h1, rfl, rfl⟩ | ⟨rfl, h1, h2, rfl⟩
   ·have hb : (z.toNat : Int) ≠ 123 := fun hh => h1 (by
     apply UInt8.toNat_inj.1;show z.toNat = 123
     omega)
    rw [if_neg hb];exact ⟨k + loc.length, rfl, hda⟩
   ·rw [if_pos (by decide)];have hd1 := (Hw hda).2.2;have hu := WM hQ hd1 h2;simp only [bb];have hu' : AQ ⟨Q, ((k + loc.length + 1 : Nat) : Int)⟩ (125 : Int) = some (.inr (uri, ⟨Q, ((k + loc.length + 1 + uri.length + 1 : Nat) : Int)⟩)) := hu;rw [hu', ba];refine ⟨k + loc.length + 1 + uri.length + 1, ?_, ?_⟩
    ·show cond (uri == ([] : List By8)) _ _ = _;rw [show (uri == ([] : List By8)) = false by rw [beq_eq_false_iff_ne]; exact h1];rfl
    ·rw [<- List.drop_drop (i := 1), <- List.drop_drop, hd1, List.drop_left]; rfl
end
def Ic (n : Aa) (v : Option (List By8)) : Ad := match v with
 | none => ⟨64, 0, n, [], (0, 0)⟩
 | some v => ⟨61, 0, n, v, (0, 0)⟩
def Gp : Option (List By8) -> List By8
 | none => [93]
 | some v => 61 :: 39 :: (v ++ [39, 93])
def Fu (n : Aa) : List By8 := if n.URI = [] then n.Local else n.Local ++ 123 :: (n.URI ++ [125])
def Dx (n : Aa) (v : Option (List By8)) : List By8 := 64 :: (Fu n ++ Gp v)
theorem Td (q : List By8) (n : Aa) (v : Option (List By8)) (hQ : (q ++ 91 :: Dx n v).length <= 8388608) (hn : NoEnd n.Local) (hu : 125 ∉ n.URI) (hv : ∀ w, v = some w -> 39 ∉ w) : CondAt (q ++ 91 :: Dx n v) ((q.length : Int) + 1) (Ic n v) := by
 generalize hQe : q ++ 91 :: Dx n v = Q at hQ;have h0 : Q.drop (q.length + 1) = 64 :: (Fu n ++ Gp v) := by
  rw [<- hQe, <- List.drop_drop, List.drop_left]; rfl
 have h1 := (Hw h0).2.2;have hlen : ∀ (p : Nat) (b : By8), Q.drop p = [b] -> p + 1 = Q.length := fun p b hp => by
  have := congrArg List.length hp;rw [List.length_drop] at this;simp at this; omega
 unfold CondAt A7;simp only [letJ];rw [show ((q.length : Int) + 1) = ((q.length + 1 : Nat) : Int) by omega, OD hQ h0, ba, if_pos (by decide)];simp only [Bool.not_true, bc];have key : (∃ r, AH ⟨Q, ((q.length + 1 + 1 : Nat) : Int)⟩ = some (.inl r)) \/
  (∃ (nm : Aa) (p : Nat) (b : By8) (B : List By8), AH ⟨Q, ((q.length + 1 + 1 : Nat) : Int)⟩ = some (.inr (nm, ⟨Q, (p : Int)⟩)) /\ Q.drop p = b :: B /\ b ≠ 93 /\ b ≠ 61 /\ b ≠ 126) \/
  ∃ p : Nat, AH ⟨Q, ((q.length + 1 + 1 : Nat) : Int)⟩ = some (.inr (n, ⟨Q, (p : Int)⟩)) /\ Q.drop p = Gp v := by
  obtain ⟨U, L⟩ := n;simp only [Fu] at h1 hn hu ⊢;by_cases hU : U = []
  ·subst hU;rw [if_pos rfl] at h1
   cases v with
   | none => exact Uo hQ (tl := []) (z := 93) h1 (.inl rfl) hn (.inl ⟨by decide, rfl, rfl⟩)
   | some w => exact Uo hQ (tl := 39 :: (w ++ [39, 93])) (z := 61) h1 (.inr (.inr rfl)) hn (.inl ⟨by decide, rfl, rfl⟩)
  ·rw [if_neg hU] at h1;exact Uo hQ (tl := U ++ 125 :: Gp v) (z := 123) (by rw [h1]; simp) (.inr (.inl rfl)) hn (.inr ⟨rfl, hU, hu, rfl⟩)
 have u8 : ∀ (b : By8) (m : Nat), m < 256 -> b ≠ UInt8.ofNat m -> (b.toNat : Int) ≠ (m : Int) := fun b m hm hb he => hb (by
  apply UInt8.toNat_inj.1;rw [UInt8.toNat_ofNat']
  omega)
 rcases key with ⟨r, hr⟩ | ⟨nm, p, b, B, hr, hd, n1, n2, n3⟩ | ⟨p, hr, hd⟩
 ·left; rw [hr]; exact ⟨_, rfl⟩
 ·left;rw [hr, ba];show ∃ r, ((Ay ⟨Q, (p : Int)⟩ 61).bind _) = _;rw [OD hQ hd, ba, if_neg (show ¬ (b.toNat : Int) = 61 from u8 b 61 (by decide) n2)];simp only [bc];rw [OD hQ hd, ba, if_neg (show ¬ (b.toNat : Int) = 126 from u8 b 126 (by decide) n3)];simp only [bc];obtain ⟨r, hr⟩ := YB hd 93 (u8 b 93 (by decide) n1);rw [hr];exact ⟨_, rfl⟩
 ·right;rw [hr, ba];show ((Ay ⟨Q, (p : Int)⟩ 61).bind _) = _
  cases v with
  | none =>
   simp only [Gp] at hd;rw [OD hQ hd, ba, if_neg (by decide)];simp only [bc];rw [OD hQ hd, ba, if_neg (by decide)];simp only [bc];rw [TO hQ hd 93 (by decide), <- hlen p 93 hd];rfl
  | some w =>
   simp only [Gp] at hd;rw [OD hQ hd, ba, if_pos (by decide)];simp only [bb];have hd1 := (Hw hd).2.2;rw [TO hQ hd1 39 (by decide), ba];have hd2 := (Hw hd1).2.2;have hup := WM hQ (b := 39) (B := [93]) (u := w) (by rw [hd2]) (hv w rfl);show ((AQ ⟨Q, ((p + 1 + 1 : Nat) : Int)⟩ 39).bind _) = _;have hup' : AQ ⟨Q, ((p + 1 + 1 : Nat) : Int)⟩ (39 : Int) = some (.inr (w, ⟨Q, ((p + 1 + 1 + w.length + 1 : Nat) : Int)⟩)) := hup;rw [hup', ba];have hd3 : Q.drop (p + 1 + 1 + w.length + 1) = [93] := by
    rw [<- List.drop_drop (i := 1), <- List.drop_drop, hd2, List.drop_left]; rfl
   show ((AC ⟨Q, ((p + 1 + 1 + w.length + 1 : Nat) : Int)⟩ 93).bind _) = _;rw [TO hQ hd3 93 (by decide), <- hlen _ 93 hd3];rfl
end Go.Proofs.YtmnbjcpikllknaaGreatDoor
