/- Conditions always answer; PickStands. No condition. -/
import Derived.Test.YtmnbjcpikllknaaGreatDoorX2
import Derived.Test.YtmnbjcpikllknaaGreatDoorX4
import Derived.Test.YtmnbjcpikllknaaGreatDoorX6
import Derived.Test.YtmnbjcpikllknaaGreatDoorWk
set_option linter.unusedSimpArgs false
set_option linter.unusedVariables false
set_option maxRecDepth 20000
namespace Go.Proofs.YtmnbjcpikllknaaGreatDoor
open Go.Proofs.Tryz
open Fl
theorem Aaq {l : List Ah} {f : Ah -> Option Bool} (hl : l.length <= 1073741824) (h : ∀ x ∈ l, ∃ b, f x = some b) : Av l f = some (-1) \/
  ∃ i, ∃ hi : i < l.length, Av l f = some (i : Int) := by
 unfold Av;simp only [letJ]
 obtain ⟨o, e, hR⟩ := AW (b := Aw l f) (fun i s => s = (i : Int)) (fun o => match o with | .inl _ => True | .inr z => ∃ i, ∃ hi : i < l.length, z = (i : Int)) l.length (x0 := (0 : Int)) rfl (by
  rintro i _ rec hi rfl;obtain ⟨b, hb⟩ := h _ (bm hi);unfold Aw;rw [bf (by omega), bb, AD hi, ba, hb, ba]
  cases b with
  | true => exact .inr ⟨_, rfl, i, hi, rfl⟩
  | false =>
   refine .inl ⟨((i + 1 : Nat) : Int), ?_, rfl⟩
   rw [bc, w64 (by omega) (by omega)]; rfl) (by
  rintro _ rec rfl;refine ⟨.inl (), ?_, trivial⟩;unfold Aw
  rw [bg (by omega), bc]) (n := FUEL) (by unfold FUEL; omega)
 rw [e, ba]
 cases o with
 | inl u => exact .inl rfl
 | inr z => obtain ⟨i, hi, rfl⟩ := hR; exact .inr ⟨i, hi, rfl⟩
theorem Aau {x : Nat} (h : WhF x) : ∃ a : Int, isI x a /\ a.natAbs <= 10000000 := by
 obtain ⟨a, h1, h2, rfl | rfl⟩ := h
 ·exact ⟨a, VF a (by omega), by omega⟩
 ·exact ⟨-a, WX (VF a (by omega)), by omega⟩
theorem Lf {f : List Am} {L : FgW} (H : FigW f L) {z : Nat × Nat} (h1 : WhF z.1) (h2 : WhF z.2) : ∃ r, Di f z = some r := by
 obtain ⟨a, ha, ha2⟩ := Aau h1;obtain ⟨b, hb, hb2⟩ := Aau h2;have hz : Sp z (a, b) := ⟨ha, hb⟩
 by_cases hp : InB (a, b)
 ·exact ⟨_, VO H hz hp⟩
 ·have hs := Uz hz (by simp only; omega) (by simp only; omega);have hf : (inB a && inB b) = false := by
   cases h : (inB a && inB b) with
   | false => rfl
   | true => exact absurd ((Uh (a, b)).1 h) hp
  unfold Di;rw [QS H.fig, ba];simp only [letJ];rw [Bool.not_true, bc, hs, ba];dsimp only;rw [hf];exact ⟨_, rfl⟩
theorem Ru {c : Ad} (hc : CP c) (n : Ab) (hn : szN n <= 1048576) : ∃ b, BM c n = some b := by
 have hl := FJ n;unfold BM;rcases Aaq (l := n.Attrs) (f := fun z0 => BA z0 c) (by omega) (fun x _ => ⟨_, rfl⟩) with e | ⟨i, hi, e⟩
 ·rw [e, ba]; exact ⟨_, rfl⟩
 ·rw [e, ba]
  cases ((decide ((i : Int) < (0 : Int))) || (n.Kind != (2 : Int))) with
  | true => exact ⟨_, rfl⟩
  | false =>
   rw [bc, AD hi, ba]
   cases (c.kind == (61 : Int)) with
   | true => exact ⟨_, rfl⟩
   | false =>
    rw [bc]
    cases hk : (c.kind == (126 : Int)) with
    | false => exact ⟨_, rfl⟩
    | true =>
     obtain ⟨s1, s2⟩ := hc.s (by simpa using hk);have hv := (Pz (x := n) (bm hi)).2.2;rw [bb];rcases XI n.Attrs[i].Value (by omega) with ⟨f, L, e1, h1, h2⟩ | ⟨pl, er, _, e1⟩
     ·obtain ⟨r, hr⟩ := Lf (h1.figW h2) s1 s2;rw [e1, ba];dsimp only;rw [hr]; exact ⟨_, rfl⟩
     ·obtain ⟨r, hr⟩ := Lf (FR.nil.figW (by simp [Jy])) s1 s2;rw [e1, ba];dsimp only;rw [hr]; exact ⟨_, rfl⟩
theorem Afy {N : Nat} (hN : N <= 1048576) (q : List By8) (hq : q.length <= 1048576) : ∃ x, RdOk N q x := by
 obtain ⟨x, h1, h2, h3, h4⟩ := YW q hq;exact ⟨x, h1, h2, fun st hst => ⟨fun c hc => ⟨fun n hn => Ru ((h3 st hst).1 c hc) n (Nat.le_trans hn hN), ((h3 st hst).1 c hc).k⟩, Nat.le_trans (h3 st hst).2 (by omega)⟩, h4⟩

set_option linter.unusedSimpArgs false
set_option linter.unusedVariables false
set_option maxRecDepth 20000
theorem XW {α : Type} {c : Bool} {x y : Option α} (h1 : ∃ b, x = some b) (h2 : ∃ b, y = some b) : ∃ b, cond c x y = some b := by cases c; exact h2; exact h1
theorem L2 (r : Int) : ∃ b, BF r = some b := by
 unfold BF;simp only [letJ]
 repeat first | exact ⟨_, rfl⟩ | refine XW ?_ ?_
theorem RC (r : Int) : ∃ b, Bl r = some b := by
 obtain ⟨b, hb⟩ := L2 r;unfold Bl;rw [hb]; exact ⟨_, rfl⟩
theorem Sh (l : List By8) (k : Nat) (hk : k < l.length) (hl : l.length <= 1048576) : ∃ (r : Int) (n : Nat), BX l (k : Int) = some (r, (n : Int)) /\ (n = 0 \/ (k + n <= l.length /\ ((n = 1 /\ r = (l[k].toNat : Int) /\ l[k].toNat < 128) \/ ∀ j (h : j < l.length), k <= j -> j < k + n -> 128 <= l[j].toNat))) := by
 have hb := l[k].toNat_lt;have loop : ∀ (n : Nat) (v : Int), 2 <= n -> n <= 4 -> k + n <= l.length -> ∃ o, iter (BG l (k : Int) (n : Int)) FUEL (v, (1 : Int)) = some o /\ (match o with | .inl _ => ∀ j (h : j < l.length), k < j -> j < k + n -> 128 <= l[j].toNat | .inr p => p = (0, 0)) := by
  intro n v h2 h4 hkn;refine AW (b := BG l (k : Int) (n : Int)) (fun i x => x.2 = ((i + 1 : Nat) : Int) /\ ∀ j (h : j < l.length), k < j -> j < k + i + 1 -> 128 <= l[j].toNat) _ (n - 1) (x0 := (v, (1 : Int))) ⟨rfl, fun j h h1 h2 => by omega⟩ ?_ ?_ (n := FUEL) (by unfold FUEL; omega)
  ·rintro i ⟨w, z⟩ rec hi ⟨hz, hI⟩;simp only at hz;subst hz;have hki : k + (i + 1) < l.length := by omega
   have hb2 := l[k + (i + 1)].toNat_lt;unfold BG;dsimp only;rw [bf (by omega), bb, w64 (x := (k : Int) + ((i + 1 : Nat) : Int)) (by omega) (by omega), show (k : Int) + ((i + 1 : Nat) : Int) = ((k + (i + 1) : Nat) : Int) by omega, AD hki, ba, w64 (x := (l[k + (i + 1)].toNat : Int)) (by omega) (by omega)];by_cases hc : 128 <= l[k + (i + 1)].toNat
   ·cases hd : ((decide ((l[k + (i + 1)].toNat : Int) < (128 : Int))) || (decide ((191 : Int) < (l[k + (i + 1)].toNat : Int)))) with
    | true => exact .inr ⟨_, rfl, rfl⟩
    | false =>
     refine .inl ⟨_, rfl, ?_, fun j h h1 h2 => ?_⟩
     ·simp only;rw [w64 (by omega) (by omega)]; omega
     ·by_cases hj : j = k + (i + 1)
      ·subst hj; exact hc
      ·exact hI j h h1 (by omega)
   ·rw [bf (by omega), Bool.true_or];exact .inr ⟨_, rfl, rfl⟩
  ·rintro ⟨w, z⟩ rec ⟨hz, hI⟩;simp only at hz;subst hz;unfold BG;dsimp only;rw [bg (by omega), bc];exact ⟨_, rfl, fun j h h1 h2 => hI j h h1 (by omega)⟩
 have J : ∀ (n : Nat) (v lo : Int), 2 <= n -> n <= 4 -> 128 <= l[k].toNat -> ∃ (r : Int) (m : Nat), cond (decide ((l.length : Int) < (IntKind.wrap .i64 ((k : Int) + (n : Int))))) (some ((0 : Int), (0 : Int)))
   ((iter (BG l (k : Int) (n : Int)) FUEL (v, (1 : Int))).bind fun o => match o with
    | .inl o1 => cond (((decide (o1 < lo)) || (decide ((1114111 : Int) < o1))) || ((decide ((55296 : Int) <= o1)) && (decide (o1 <= (57343 : Int))))) (some ((0 : Int), (0 : Int))) (some (o1, (n : Int)))
    | .inr o1 => some o1) = some (r, (m : Int)) /\ (m = 0 \/ (k + m <= l.length /\ ((m = 1 /\ r = (l[k].toNat : Int) /\ l[k].toNat < 128) \/ ∀ j (h : j < l.length), k <= j -> j < k + m -> 128 <= l[j].toNat))) := by
  intro n v lo h2 h4 h128;rw [w64 (by omega) (by omega)];by_cases hn : l.length < k + n
  ·rw [bf (by omega), bb];exact ⟨0, 0, rfl, .inl rfl⟩
  ·rw [bg (by omega), bc];obtain ⟨o, e, ho⟩ := loop n v h2 h4 (by omega);rw [e, ba]
   cases o with
   | inr p => simp only at ho ⊢; rw [ho]; exact ⟨0, 0, rfl, .inl rfl⟩
   | inl w =>
    simp only at ho ⊢
    cases (((decide (w < lo)) || (decide ((1114111 : Int) < w))) || ((decide ((55296 : Int) <= w)) && (decide (w <= (57343 : Int))))) with
    | true => exact ⟨0, 0, rfl, .inl rfl⟩
    | false =>
     refine ⟨w, n, rfl, .inr ⟨by omega, .inr fun j h h1 h2 => ?_⟩⟩;by_cases hj : j = k
     ·subst hj; exact h128
     ·exact ho j h (by omega) h2
 unfold BX;simp only [letJ];rw [AD hk, ba, w64 (x := (l[k].toNat : Int)) (by omega) (by omega)];by_cases h1 : l[k].toNat < 128
 ·rw [bf (by omega), bb];exact ⟨_, 1, rfl, .inr ⟨by omega, .inl ⟨rfl, rfl, h1⟩⟩⟩
 ·rw [bg (by omega), bc]
  cases ((decide ((192 : Int) <= (l[k].toNat : Int))) && (decide ((l[k].toNat : Int) < (224 : Int)))) with
  | true => exact J 2 _ 128 (by omega) (by omega) (by omega)
  | false =>
   rw [bc]
   cases ((decide ((224 : Int) <= (l[k].toNat : Int))) && (decide ((l[k].toNat : Int) < (240 : Int)))) with
   | true => exact J 3 _ 2048 (by omega) (by omega) (by omega)
   | false =>
    rw [bc]
    cases ((decide ((240 : Int) <= (l[k].toNat : Int))) && (decide ((l[k].toNat : Int) < (248 : Int)))) with
    | true => exact J 4 _ 65536 (by omega) (by omega) (by omega)
    | false => exact ⟨0, 0, rfl, .inl rfl⟩
theorem VB : Bl 93 = some false /\ Bl 123 = some false /\ Bl 61 = some false /\ Bl 126 = some false := ⟨rfl, rfl, rfl, rfl⟩
def OkB (c : By8) : Prop := c ≠ 93 /\ c ≠ 123 /\ c ≠ 61 /\ c ≠ 126
theorem Acw {c : By8} (h : 128 <= c.toNat) : OkB c := by
 refine ⟨?_, ?_, ?_, ?_⟩ <;> (rintro rfl; revert h; decide)
theorem Vn {c : By8} (h : Bl (c.toNat : Int) = some true) : OkB c := by
 obtain ⟨p1, p2, p3, p4⟩ := VB;refine ⟨?_, ?_, ?_, ?_⟩
 ·rintro rfl; have := p1.symm.trans h; cases this
 ·rintro rfl; have := p2.symm.trans h; cases this
 ·rintro rfl; have := p3.symm.trans h; cases this
 ·rintro rfl; have := p4.symm.trans h; cases this
theorem Rm (l : List By8) (hl : l.length <= 1048576) : ∃ b, B0 l = some b /\ (b = true -> NoEnd l) := by
 unfold B0
 cases (((l.length : Int) == (0 : Int)) || (decide ((100 : Int) < (l.length : Int)))) with
 | true => exact ⟨_, rfl, fun h => by cases h⟩
 | false =>
  rw [bc];simp only [letJ]
  obtain ⟨o, e, ho⟩ := AW (b := Cj l) (fun i x => ∃ a : Nat, i <= a /\ a <= l.length /\ x = (a : Int) /\ ∀ j (h : j < l.length), j < a -> OkB l[j]) (fun o => match o with | .inl _ => NoEnd l | .inr b => b = false) l.length (x0 := (0 : Int)) ⟨0, Nat.le_refl _, Nat.zero_le _, rfl, fun j h h2 => by omega⟩ (by
   rintro i _ rec hi ⟨a, h1, h2, rfl, h3⟩;unfold Cj;simp only [letJ];by_cases ha : a < l.length
   ·obtain ⟨r, n, hr, hn⟩ := Sh l a ha hl;obtain ⟨b1, hb1⟩ := RC r;obtain ⟨b2, hb2⟩ := L2 r;rw [bf (by omega), bb, hr, ba, hb1, hb2];simp only [ba];by_cases hn0 : n = 0
    ·subst hn0; exact .inr ⟨_, rfl, rfl⟩
    ·rcases hn with h | ⟨hle, hn⟩
     ·exact absurd h hn0
     ·rw [show ((n : Int) == (0 : Int)) = false by rw [beq_eq_false_iff_ne]; omega, bc]
      cases b1 with
      | false => exact .inr ⟨_, rfl, rfl⟩
      | true =>
       have hg : ∃ y : Int, rec (IntKind.wrap .i64 ((a : Int) + (n : Int))) = rec y /\ ∃ a : Nat, i + 1 <= a /\ a <= l.length /\ y = (a : Int) /\ ∀ j (h : j < l.length), j < a -> OkB l[j] := by
        refine ⟨_, rfl, a + n, by omega, hle, by rw [w64 (by omega) (by omega)]; omega, fun j h h4 => ?_⟩;by_cases hj : j < a
        ·exact h3 j h hj
        ·rcases hn with ⟨hn1, hr1, hr2⟩ | hn
         ·obtain rfl : j = a := by omega
          rw [hr1] at hb1;exact Vn hb1
         ·exact Acw (hn j h (by omega) h4)
       cases ((a : Int) == (0 : Int)) <;> cases b2 <;> first | exact .inl hg | exact .inr ⟨_, rfl, rfl⟩
   ·rw [bg (by omega), bc];refine .inr ⟨_, rfl, fun c hc => ?_⟩;obtain ⟨j, hj, rfl⟩ := List.getElem_of_mem hc
    exact h3 j hj (by omega)) (by
   rintro _ rec ⟨a, h1, h2, rfl, h3⟩;unfold Cj;rw [bg (by omega), bc];refine ⟨_, rfl, fun c hc => ?_⟩;obtain ⟨j, hj, rfl⟩ := List.getElem_of_mem hc
   exact h3 j hj (by omega)) (n := FUEL) (by unfold FUEL; omega)
  rw [e, ba]
  cases o with
  | inl _ => exact ⟨_, rfl, fun _ => ho⟩
  | inr b => exact ⟨_, rfl, fun h => by simp only at ho; rw [ho] at h; cases h⟩
theorem Lq (l : List By8) (c : By8) (hl : l.length <= 1048576) : ∃ b, By l (c.toNat : Int) = some b /\ (b = false -> c ∉ l) := by
 unfold By;simp only [letJ]
 obtain ⟨o, e, ho⟩ := AW (b := B7 l (c.toNat : Int)) (fun i x => x = (i : Int) /\ ∀ j (h : j < l.length), j < i -> l[j] ≠ c) (fun o => match o with | .inl _ => c ∉ l | .inr b => b = true) l.length (x0 := (0 : Int)) ⟨rfl, fun j h h2 => by omega⟩ (by
  rintro i _ rec hi ⟨rfl, h3⟩;unfold B7;rw [bf (by omega), bb, AD hi, ba];by_cases hc : l[i] = c
  ·rw [show ((l[i].toNat : Int) == (c.toNat : Int)) = true by rw [hc]; simp];exact .inr ⟨_, rfl, rfl⟩
  ·rw [show ((l[i].toNat : Int) == (c.toNat : Int)) = false by
    rw [beq_eq_false_iff_ne]
    exact fun h => hc (UInt8.toNat_inj.1 (by omega))]
   refine .inl ⟨((i + 1 : Nat) : Int), ?_, rfl, fun j h h2 => ?_⟩
   ·rw [bc, w64 (by omega) (by omega)]; rfl
   ·by_cases hj : j = i
    ·subst hj; exact hc
    ·exact h3 j h (by omega)) (by
  rintro _ rec ⟨rfl, h3⟩;unfold B7;rw [bg (by omega), bc];refine ⟨_, rfl, fun hc => ?_⟩;obtain ⟨j, hj, e⟩ := List.getElem_of_mem hc
  exact h3 j hj hj e) (n := FUEL) (by unfold FUEL; omega)
 rw [e, ba]
 cases o with
 | inl _ => exact ⟨_, rfl, fun _ => ho⟩
 | inr b => exact ⟨_, rfl, fun h => by simp only at ho; rw [ho] at h; cases h⟩

set_option linter.unusedSimpArgs false
set_option linter.unusedVariables false
set_option maxRecDepth 20000
def I0 (n : Aa) (w : Option (List By8)) (x : Ab) : Bool := match FX x.Kind n x.Attrs with
 | none => false
 | some v => match w with
  | none => true
  | some w => v == w
theorem MN (c : Ad) (l : List Ah) (hl : l.length <= 1073741824) :
  (Av l (fun z0 => BA z0 c) = some (-1) /\ FX 2 c.name l = none) \/ ∃ i, ∃ hi : i < l.length, Av l (fun z0 => BA z0 c) = some (i : Int) /\ FX 2 c.name l = some l[i].Value := by
 unfold Av;simp only [letJ]
 obtain ⟨o, e, hR⟩ := AW (b := Aw l (fun z0 => BA z0 c)) (fun i s => s = (i : Int) /\ FX 2 c.name l = FX 2 c.name (l.drop i)) (fun o => match o with | .inl _ => FX 2 c.name l = none | .inr z => ∃ i, ∃ hi : i < l.length, z = (i : Int) /\ FX 2 c.name l = some l[i].Value) l.length (x0 := (0 : Int)) ⟨rfl, by simp⟩ (by
  rintro i _ rec hi ⟨rfl, hI⟩;rw [LB hi, FX] at hI;unfold Aw BA;rw [bf (by omega), bb, AD hi, ba, ba]
  cases hb : ((l[i].Name.URI == c.name.URI) && ((l[i].Name.Local == c.name.Local) && true)) with
  | true => rw [hb] at hI; exact .inr ⟨_, rfl, i, hi, rfl, by simpa using hI⟩
  | false =>
   rw [hb] at hI;refine .inl ⟨((i + 1 : Nat) : Int), ?_, rfl, by simpa using hI⟩
   rw [bc, w64 (by omega) (by omega)]; rfl) (by
  rintro _ rec ⟨rfl, hI⟩;rw [List.drop_length] at hI;refine ⟨.inl (), ?_, hI⟩;unfold Aw
  rw [bg (by omega), bc]) (n := FUEL) (by unfold FUEL; omega)
 rw [e, ba]
 cases o with
 | inl u => exact .inl ⟨rfl, hR⟩
 | inr z => obtain ⟨i, hi, rfl, h⟩ := hR; exact .inr ⟨i, hi, rfl, h⟩
theorem TJ {K : Int} (hK : K ≠ 2) (n : Aa) : ∀ l : List Ah, FX K n l = none
 | [] => rfl
 | a :: l => by
  rw [FX, show (K == (2 : Int)) = false by rw [beq_eq_false_iff_ne]; exact hK, Bool.false_and, if_neg (by simp)];exact TJ hK n l
theorem Qa (n : Aa) (w : Option (List By8)) : (Ic n w).name = n := by cases w <;> rfl
theorem S5 (n : Aa) (w : Option (List By8)) (x : Ab) (hx : x.Attrs.length <= 1073741824) : L3 (Ic n w) x = I0 n w x := by
 have key : BM (Ic n w) x = some (I0 n w x) := by
  unfold BM I0;by_cases hk : x.Kind = 2
  ·have h := MN (Ic n w) x.Attrs hx;rw [Qa] at h;rw [hk];rcases h with ⟨e, h⟩ | ⟨i, hi, e, h⟩
   ·rw [e, h, ba]; rfl
   ·rw [e, h, ba, bg (by omega), show ((2 : Int) != 2) = false from rfl, Bool.or_false, bc, AD hi, ba];cases w <;> rfl
  ·have e : ∃ z, Av x.Attrs (fun z0 => BA z0 (Ic n w)) = some z := by
    rcases MN (Ic n w) x.Attrs hx with ⟨e, _⟩ | ⟨i, _, e, _⟩ <;> exact ⟨_, e⟩
   obtain ⟨z, e⟩ := e;rw [e, ba, show (x.Kind != (2 : Int)) = true by simpa using hk, Bool.or_true, bb, TJ hk]
 unfold L3;rw [key]; rfl
section
variable {c : Ad} (hk : c.kind ≠ 91) (st : Ai)
include hk
theorem UD (s : Spt) : ofP (Px st c) s = (ofP st s).filter fun x => L3 c x.node := by
 show (st.conds ++ [c]).foldl Ff ((EK s).filter fun k => Q7 st k.node) = _;rw [List.foldl_append, List.foldl_cons, List.foldl_nil];unfold Ff;rw [if_neg hk];rfl
theorem OU : ∀ (n : Nat) (s : Spt), Fc (Px st c) n s = (Fc st n s).filter fun x => L3 c x.node
 | 0, _ => rfl
 | n + 1, s => by
  show ofP (Px st c) s ++ (EK s).flatMap (Fc (Px st c) n) = (ofP st s ++ (EK s).flatMap (Fc st n)).filter _;rw [List.filter_append, UD hk, List.filter_flatMap];congr 2;funext s;exact OU n s
theorem Yc (s : Spt) : stF (Px st c) s = (stF st s).filter fun x => L3 c x.node := by
 show (if st.deep then _ else _) = _;unfold stF;split
 ·exact OU hk st _ _
 ·exact UD hk st _
end
theorem SL : ∀ {a b : List Spt}, Srt a -> Srt b -> (∀ x, x ∈ a ↔ x ∈ b) -> a = b
 | [], [], _, _, _ => rfl
 | [], y :: b, _, _, h => by have := (h y).2 List.mem_cons_self; cases this
 | x :: a, [], _, _, h => by have := (h x).1 List.mem_cons_self; cases this
 | x :: a, y :: b, ha, hb, h => by
  obtain ⟨a1, a2⟩ := List.pairwise_cons.1 ha;obtain ⟨b1, b2⟩ := List.pairwise_cons.1 hb;have irr : ∀ p : List Int, ¬ HF p p < 0 := fun p hp => by rw [It.refl] at hp; omega
  have hxy : x = y := by
   rcases List.mem_cons.1 ((h x).1 List.mem_cons_self) with e | h1
   ·exact e
   ·rcases List.mem_cons.1 ((h y).2 List.mem_cons_self) with e | h2
    ·exact e.symm
    ·have h3 := b1 x h1;have h4 := a1 y h2;have := It.anti x.path y.path;omega
  subst hxy;rw [SL a2 b2 fun z => ⟨fun hz => ?_, fun hz => ?_⟩]
  ·rcases List.mem_cons.1 ((h z).1 (List.mem_cons_of_mem _ hz)) with e | h1
   ·subst e; exact absurd (a1 _ hz) (irr _)
   ·exact h1
  ·rcases List.mem_cons.1 ((h z).2 (List.mem_cons_of_mem _ hz)) with e | h1
   ·subst e; exact absurd (b1 _ hz) (irr _)
   ·exact h1
theorem SQ {d : Ab} (hs : szN d <= 1048576) {c : Ad} (hk : c.kind ≠ 91) (st : Ai) {l : List Spt} (h : InvS d l) : Iz (Px st c) l = (Iz st l).filter fun x => L3 c x.node := by
 refine SL (JD hs (Px st c) h).2.s ((JD hs st h).2.s.sublist List.filter_sublist) fun x => ?_;unfold Iz;rw [(Ie _).mem_iff, List.mem_filter, (Ie _).mem_iff];have e : stL (Px st c) l = stL st l := rfl;rw [e, show stF (Px st c) = fun s => (stF st s).filter fun x => L3 c x.node from funext (Yc hk st), <- List.filter_flatMap, List.mem_filter]
theorem Nh {d : Ab} (hs : szN d <= 1048576) : ∀ (S0 : List Ai) (l : List Spt), InvS d l -> (∃ st0 l0, ∀ st, I5 (S0 ++ [st]) l = U1 st0 l0) \/ ∃ l', InvS d l' /\ ∀ st, st.attr = false -> I5 (S0 ++ [st]) l = (Iz st l').map trS
 | [], l, h => .inr ⟨l, h, fun st hst => by
  show (if st.attr then U1 st l else I5 [] (Iz st l)) = _
  rw [hst]; rfl⟩
 | s :: S0, l, h => by
  cases ha : s.attr with
  | true => exact .inl ⟨s, l, fun st => by show (if s.attr then U1 s l else _) = _; rw [ha]; rfl⟩
  | false =>
   have e : ∀ st, I5 (s :: S0 ++ [st]) l = I5 (S0 ++ [st]) (Iz s l) := fun st => by show (if s.attr then U1 s l else _) = _; rw [ha]; rfl
   rcases Nh hs S0 (Iz s l) (JD hs s h).2 with ⟨st0, l0, h0⟩ | ⟨l', h1, h2⟩
   ·exact .inl ⟨st0, l0, fun st => by rw [e, h0]⟩
   ·exact .inr ⟨l', h1, fun st hst => by rw [e, h2 st hst]⟩
theorem RA (t : Ak) : II t t = 0 := MQ.refl t
theorem Ac2 {d : Ab} (hs : szN d <= 1048576) {A : List Spt} (hA : InvS d A) (p : Spt -> Bool) {j : Nat} (hj : j < A.length) : (decide ((((A.take j).filter p).length : Int) < (((A.filter p).map trS).length : Int)) = false /\ p A[j] = false) \/
  ∃ y c, decide ((((A.take j).filter p).length : Int) < (((A.filter p).map trS).length : Int)) = true /\ idx ((A.filter p).map trS) (((A.take j).filter p).length : Int) = some y /\ CW y (trS A[j]) = some c /\ (c == (0 : Int)) = p A[j] := by
 have hsp : A.filter p = (A.take j).filter p ++ (A.drop j).filter p := by rw [<- List.filter_append, List.take_append_drop]
 have hlen := fun x (hx : x ∈ A) => (hA.v x hx).len;rw [hsp, List.map_append, bk, List.length_map, List.length_map];have hdr : A.drop j = A[j] :: A.drop (j + 1) := List.drop_eq_getElem_cons hj
 cases hR : (A.drop j).filter p with
 | nil =>
  refine .inl ⟨bg (by simp), ?_⟩
  cases hp : p A[j] with
  | false => rfl
  | true =>
   rw [hdr, List.filter_cons_of_pos hp] at hR; cases hR
 | cons y R =>
  have hi : ((A.take j).filter p).length < (((A.take j).filter p).map trS ++ (y :: R).map trS).length := by simp
  have e : (((A.take j).filter p).map trS ++ (y :: R).map trS)[((A.take j).filter p).length]'hi = trS y := by
   rw [List.getElem_append_right (by simp)];simp
  have hyA : y ∈ A := by
   have : y ∈ (A.drop j).filter p := by rw [hR]; exact List.mem_cons_self
   exact List.mem_of_mem_drop (List.mem_filter.1 this).1
  have l1 := hlen y hyA;have l2 := hlen _ (bm hj);refine .inr ⟨trS y, II (trS y) (trS A[j]), bf (by simp only [bi]; omega), by rw [AD hi, e], Aa0 _ _ (by show y.path.length <= _; omega) (by show A[j].path.length <= _; omega), ?_⟩
  cases hp : p A[j] with
  | true =>
   rw [hdr, List.filter_cons_of_pos hp] at hR;injection hR with h1 _
   rw [<- h1, RA]; rfl
  | false =>
   rw [hdr, List.filter_cons_of_neg (by simpa using hp)] at hR;have hy : y ∈ A.drop (j + 1) := by
    have : y ∈ (A.drop (j + 1)).filter p := by rw [hR]; exact List.mem_cons_self
    exact (List.mem_filter.1 this).1
   have hlt : HF A[j].path y.path < 0 := by
    have h1 := hA.s.sublist (List.drop_sublist j A);rw [hdr] at h1;exact (List.pairwise_cons.1 h1).1 y hy
   have h2 : II (trS A[j]) (trS y) < 0 := Vq hlt;have h3 := MQ.anti (trS A[j]) (trS y);rw [show (II (trS y) (trS A[j]) == (0 : Int)) = false by rw [beq_eq_false_iff_ne]; omega]
theorem OH {d : Ab} (hs : szN d <= 1048576) (n : Aa) (v : List By8) {A : List Spt} (hA : InvS d A) (z : Int × Int) :
  iter (AN d n v (A.map trS, z) ((A.filter fun x => I0 n none x.node).map trS, z) ((A.filter fun x => I0 n (some v) x.node).map trS, z)) FUEL ((0 : Int), (0 : Int), (0 : Int)) = some (.inl (((A.filter fun x => I0 n none x.node).length : Int), ((A.filter fun x => I0 n (some v) x.node).length : Int))) := by
 have hb := (hA.bnd hs).1;have fl : ∀ (p : Spt -> Bool) (j : Nat), ((A.take j).filter p).length <= 1048576 := fun p j => by
  have h1 := List.length_filter_le p (A.take j);rw [List.length_take] at h1; omega
 have nx : ∀ (p : Spt -> Bool) (j : Nat) (h : j < A.length), (((A.take (j + 1)).filter p).length : Int) = ((A.take j).filter p).length + (if p A[j] then 1 else 0) := fun p j h => by
  rw [List.take_succ_eq_append_getElem h, List.filter_append, bk]
  cases hp : p A[j] with
  | true => simp [hp]
  | false => simp [hp]
 obtain ⟨o, e, rfl⟩ := AW (b := AN d n v (A.map trS, z) ((A.filter fun x => I0 n none x.node).map trS, z) ((A.filter fun x => I0 n (some v) x.node).map trS, z))
  (fun j x => x = ((((A.take j).filter fun x => I0 n none x.node).length : Int), (((A.take j).filter fun x => I0 n (some v) x.node).length : Int), (j : Int)))
  (fun o => o = .inl (((A.filter fun x => I0 n none x.node).length : Int), ((A.filter fun x => I0 n (some v) x.node).length : Int))) A.length (x0 := ((0 : Int), (0 : Int), (0 : Int))) rfl (by
  rintro j _ rec hj rfl;left;refine ⟨_, ?_, rfl⟩;have f1 := fl (fun x => I0 n none x.node) j;have f2 := fl (fun x => I0 n (some v) x.node) j;have n1 := nx (fun x => I0 n none x.node) j hj;have n2 := nx (fun x => I0 n (some v) x.node) j hj;have hV : Pk d ⟨A[j].path, true, n⟩ = (match FX A[j].node.Kind n A[j].node.Attrs with | some v => (v, (0 : Int)) | none => ([], 7)) := by
   have : atP d A[j].path = some A[j].node := hA.v _ (bm hj);unfold Pk;simp only;rw [this]; rfl
  have hl := (hA.v _ (bm hj)).len;unfold AN;simp only [letJ];rw [bf (by rw [List.length_map]; omega), bb, AD (l := A.map trS) (i := j) (by rw [List.length_map]; exact hj), List.getElem_map, ba];rw [show ((⟨(trS A[j]).Steps, true, n⟩ : Ak)) = ⟨A[j].path, true, n⟩ from rfl, Yb d _ hs (by show A[j].path.length <= _; omega), ba, hV];have g1 := Ac2 hs hA (fun x => I0 n none x.node) hj;have g2 := Ac2 hs hA (fun x => I0 n (some v) x.node) hj;have w1 : IntKind.wrap .i64 ((((A.take j).filter fun x => I0 n none x.node).length : Int) + 1) = (((A.take j).filter fun x => I0 n none x.node).length : Int) + 1 := w64 (by omega) (by omega);have w2 : IntKind.wrap .i64 ((((A.take j).filter fun x => I0 n (some v) x.node).length : Int) + 1) = (((A.take j).filter fun x => I0 n (some v) x.node).length : Int) + 1 := w64 (by omega) (by omega);rw [w1, w2, w64 (x := (j : Int) + 1) (by omega) (by omega), n1, n2];have s1 : I0 n none A[j].node = (match FX A[j].node.Kind n A[j].node.Attrs with | none => false | some _ => true) := rfl;have s2 : I0 n (some v) A[j].node = (match FX A[j].node.Kind n A[j].node.Attrs with | none => false | some w => w == v) := rfl;generalize I0 n none A[j].node = b1 at g1 s1 ⊢;generalize I0 n (some v) A[j].node = b2 at g2 s2 ⊢;have fin : ∀ (X : Option ((Int × Int) ⊕ Bool)), X = X := fun _ => rfl;rcases g1 with ⟨a1, rfl⟩ | ⟨y1, c1, a1, a2, a3, a4⟩ <;> rcases g2 with ⟨e1, rfl⟩ | ⟨y2, c2, e1, e2, e3, e4⟩
  ·simp only [a1, e1, bb, bc]
   cases hh : FX A[j].node.Kind n A[j].node.Attrs with
   | none => simp
   | some w => rw [hh] at s1; cases s1
  ·simp only [a1, e1, e2, e3, e4, bb, bc, ba]
   cases hh : FX A[j].node.Kind n A[j].node.Attrs with
   | none => rw [hh] at s2; simp only at s2; subst s2; simp
   | some w => rw [hh] at s1; cases s1
  ·simp only [a1, a2, a3, a4, e1, bb, bc, ba]
   cases hh : FX A[j].node.Kind n A[j].node.Attrs with
   | none => rw [hh] at s1; simp only at s1; subst s1; simp
   | some w => rw [hh] at s1 s2; simp only at s1 s2; subst s1; simp [<- s2]
  ·simp only [a1, a2, a3, a4, e1, e2, e3, e4, bb, bc, ba]
   cases hh : FX A[j].node.Kind n A[j].node.Attrs with
   | none => rw [hh] at s1 s2; simp only at s1 s2; subst s1; subst s2; simp
   | some w => rw [hh] at s1 s2; simp only at s1 s2; subst s1; subst s2; cases hw : (w == v) <;> simp [hw]) (by
  rintro _ rec rfl;refine ⟨_, ?_, rfl⟩;unfold AN;dsimp only
  rw [bg (by rw [List.length_map]; omega), bc, List.take_length]) (n := FUEL) (by unfold FUEL; omega)
 exact e

set_option linter.unusedSimpArgs false
set_option linter.unusedVariables false
set_option maxRecDepth 20000
def pkP (d : Ab) (x : List Ai × Int × Int) : List Ak × Int × Int :=
 if x.2.2 ≠ 0 then ([], x.2.1, x.2.2) else if Dd d = some 0 then (I5 x.1 [⟨[], d⟩], 0, 0) else ([], 0, (Dd d).getD 0)
theorem Ny {d : Ab} (hs : szN d <= 1048576) {x : List Ai × Int × Int} (h : (pkP d x).2.2 = 0) : x.2.2 = 0 /\ pkP d x = (I5 x.1 [⟨[], d⟩], 0, 0) := by
 unfold pkP at h ⊢;by_cases h0 : x.2.2 = 0
 ·rw [if_neg (by simpa using h0)] at h ⊢;obtain ⟨r, hc, hg⟩ := M0 d hs;by_cases hr : r = 0
  ·subst hr;rw [if_pos hc];exact ⟨h0, rfl⟩
  ·rw [hc, if_neg (by simpa using hr)] at h;exact absurd h hr
 ·rw [if_pos h0] at h; exact absurd h h0
theorem Af4 (d : Ab) : 8 <= szN d := by cases d; simp only [szN, Ba]; omega
theorem Uy {d : Ab} (hs : szN d <= 1048576) (q : List By8) (n : Aa) (v : List By8) (hB : q.length + (n.URI.length + n.Local.length) + v.length + 8 <= 1048576)
  (hn : NoEnd n.Local) (hu : 125 ∉ n.URI) (hv : 39 ∉ v) {x y z : List Ai × Int × Int} (hx : RdOk (szN d) q x) (hy : RdOk (szN d) (q ++ 91 :: Dx n none) y) (hz : RdOk (szN d) (q ++ 91 :: Dx n (some v)) z)
  (h1 : (pkP d x).2.2 = 0) (h2 : (pkP d y).2.2 = 0) (h3 : (pkP d z).2.2 = 0) :
  (∃ L, pkP d x = (L, 0, 0) /\ pkP d y = (L, 0, 0) /\ pkP d z = (L, 0, 0) /\ ∀ t ∈ L, t.Attr = true) \/
  ∃ A, InvS d A /\ pkP d x = (A.map trS, 0, 0) /\ pkP d y = ((A.filter fun s => I0 n none s.node).map trS, 0, 0) /\ pkP d z = ((A.filter fun s => I0 n (some v) s.node).map trS, 0, 0) := by
 have len : ∀ w : Option (List By8), (∀ u, w = some u -> u = v) -> (q ++ 91 :: Dx n w).length <= 1048576 := fun w hw => by
  have : (Fu n).length <= n.Local.length + n.URI.length + 2 := by
   unfold Fu; split <;> (try simp) <;> omega
  have h2 : (Gp w).length <= v.length + 4 := by
   cases w with
   | none => simp [Gp]
   | some u => rw [hw u rfl]; simp [Gp]
  unfold Dx;simp only [bk, bi];omega
 have hq : q.length <= 1048576 := by omega
 obtain ⟨e1, p1⟩ := Ny hs h1;obtain ⟨e2, p2⟩ := Ny hs h2;obtain ⟨e3, p3⟩ := Ny hs h3;have l1 := len none (fun u h => by cases h);have l2 := len (some v) (fun u h => by cases h; rfl);have r1 : BQ q = some (x.1, x.2.1, 0) := by rw [hx.r, <- e1]
 have r2 : BQ (q ++ 91 :: Dx n none) = some (y.1, y.2.1, 0) := by rw [hy.r, <- e2]
 have r3 : BQ (q ++ 91 :: Dx n (some v)) = some (z.1, z.2.1, 0) := by rw [hz.r, <- e3]
 obtain ⟨S0, st, s1, s2, s3⟩ := Xn hq l1 (Td q n none (by omega) hn hu (fun w h => by cases h)) r1 r2;obtain ⟨S0', st', s1', _, s3'⟩ := Xn hq l2 (Td q n (some v) (by omega) hn hu (fun w h => by cases h; exact hv)) r1 r3;have es := List.append_inj' (s1.symm.trans s1') rfl;obtain rfl := es.1;have : st = st' := by have := es.2; injection this
 subst this;rcases Nh hs S0 _ (Vy d) with ⟨st0, l0, h0⟩ | ⟨l', hl, h0⟩
 ·left;refine ⟨U1 st0 l0, by rw [p1, s1, h0], by rw [p2, s3, h0], by rw [p3, s3', h0], fun t ht => ?_⟩;unfold U1 VQ at ht;obtain ⟨s, _, ht⟩ := List.mem_flatMap.1 ht;obtain ⟨a, _, rfl⟩ := List.mem_map.1 ht;rfl
 ·right;have hA := (JD hs st hl).2;have fe : ∀ w : Option (List By8), (Iz (Px st (Ic n w)) l') = (Iz st l').filter fun s => I0 n w s.node := fun w => by
   rw [SQ hs (c := Ic n w) (by cases w <;> first | exact (show (64 : Int) ≠ 91 by decide) | exact (show (61 : Int) ≠ 91 by decide)) st hl];refine List.filter_congr fun s hs' => ?_;exact S5 n w s.node (by have := (hA.bnd hs).2 s hs'; omega)
  refine ⟨Iz st l', hA, by rw [p1, s1, h0 st s2], ?_, ?_⟩
  ·rw [p2, s3, h0 (Px st (Ic n none)) s2, fe]
  ·rw [p3, s3', h0 (Px st (Ic n (some v))) s2, fe]
theorem L4 (d : Ab) (q : List By8) (n : Aa) (v : List By8) (hs : szN d <= 1048576) (hB : q.length + (n.URI.length + n.Local.length) + v.length + 8 <= 1048576) : Cf d q n v = some true := by
 unfold Cf;rw [X0, ba, Bool.not_true, bc];obtain ⟨b1, hb1, hn⟩ := Rm n.Local (by omega);obtain ⟨b2, hb2, hu⟩ := Lq n.URI 125 (by omega);obtain ⟨b3, hb3, hv⟩ := Lq v 39 (by omega);have hb2' : By n.URI (125 : Int) = some b2 := hb2;have hb3' : By v (39 : Int) = some b3 := hb3;rw [hb1, ba, hb2', hb3'];simp only [letJ, ba]
 cases b1 with
 | false => rfl
 | true =>
 cases b2 with
 | true => rfl
 | false =>
 cases b3 with
 | true => rfl
 | false =>
 have hn := hn rfl;have hu := hu rfl;have hv := hv rfl;simp only [Bool.not_true, bc]
 have core : ∀ a : List By8, a = 91 :: Dx n none -> ((slc a (0 : Int) (IntKind.wrap .i64 ((a.length : Int) - (1 : Int)))).bind fun x17 =>
   (cat x17 ([61, 39] : List By8)).bind fun _ =>
   (cat (x17 ++ ([61, 39] : List By8)) v).bind fun _ =>
   (cat ((x17 ++ ([61, 39] : List By8)) ++ v) ([39, 93] : List By8)).bind fun _ =>
   (CI d q).bind fun x18 =>
   (cat q a).bind fun _ =>
   (CI d (q ++ a)).bind fun x19 =>
   (cat q (((x17 ++ ([61, 39] : List By8)) ++ v) ++ ([39, 93] : List By8))).bind fun _ =>
   (CI d (q ++ (((x17 ++ ([61, 39] : List By8)) ++ v) ++ ([39, 93] : List By8)))).bind fun x20 =>
   cond (((x18.2.2 != (0 : Int)) || (x19.2.2 != (0 : Int))) || (x20.2.2 != (0 : Int))) (some true)
    (cond (decide ((0 : Int) < (x19.1.length : Int))) ((idx x19.1 (0 : Int)).bind fun x29 => cond x29.Attr (some true) ((iter (AN d n v x18 x19 x20) FUEL ((0 : Int), (0 : Int), (0 : Int))).bind fun o => match o with
     | .inl o1 => some ((o1.1 == (x19.1.length : Int)) && (o1.2 == (x20.1.length : Int)))
     | .inr o1 => some o1)) ((iter (AN d n v x18 x19 x20) FUEL ((0 : Int), (0 : Int), (0 : Int))).bind fun o => match o with
     | .inl o1 => some ((o1.1 == (x19.1.length : Int)) && (o1.2 == (x20.1.length : Int)))
     | .inr o1 => some o1))) = some true := by
  rintro a rfl;have hnl : (Fu n).length <= n.Local.length + n.URI.length + 2 := by
   unfold Fu; split <;> (try simp) <;> omega
  have hsl : slc (91 :: Dx n none) (0 : Int) (IntKind.wrap .i64 (((91 :: Dx n none).length : Int) - (1 : Int))) = some (91 :: 64 :: Fu n) := by
   have hl : (91 :: Dx n none).length = (Fu n).length + 3 := by simp [Dx, Gp]
   rw [w64 (by omega) (by omega)];unfold slc;rw [if_pos (by omega), hl];have e1 : ((((Fu n).length + 3 : Nat) : Int) - 1).toNat - (0 : Int).toNat = (Fu n).length + 2 := by simp; omega
   rw [e1];show some (List.take _ (List.drop 0 (91 :: 64 :: (Fu n ++ [93])))) = _;rw [List.drop_zero, List.take_succ_cons, List.take_succ_cons, List.take_left]
  have ev : ((91 :: 64 :: Fu n) ++ ([61, 39] : List By8)) ++ v ++ ([39, 93] : List By8) = 91 :: Dx n (some v) := by simp [Dx, Gp]
  have lq : q.length <= 1048576 := by omega
  have l1 : (91 :: Dx n none).length <= (Fu n).length + 3 := by simp [Dx, Gp]
  have l2 : (91 :: Dx n (some v)).length <= (Fu n).length + v.length + 6 := by simp [Dx, Gp]; omega
  obtain ⟨x, hx⟩ := Afy hs q (by omega);obtain ⟨y, hy⟩ := Afy hs (q ++ 91 :: Dx n none) (by rw [bk]; omega);obtain ⟨z, hz⟩ := Afy hs (q ++ 91 :: Dx n (some v)) (by rw [bk]; omega)
  rw [hsl, ba, DC (by simp only [bi, bj]; omega), ba, DC (by simp only [bk, bi, bj]; omega), ba, DC (by simp only [bk, bi, bj]; omega), ba, ev,
   Qz hs q x hx.r hx.st hx.l, ba, DC (by omega), ba, Qz hs _ y hy.r hy.st hy.l, ba, DC (by omega), ba, Qz hs _ z hz.r hz.st hz.l, ba]
  show cond (((((pkP d x).2.2 != (0 : Int)) || ((pkP d y).2.2 != (0 : Int))) || ((pkP d z).2.2 != (0 : Int)))) (some true)
    (cond (decide ((0 : Int) < ((pkP d y).1.length : Int))) ((idx (pkP d y).1 (0 : Int)).bind fun x29 => cond x29.Attr (some true) ((iter (AN d n v (pkP d x) (pkP d y) (pkP d z)) FUEL ((0 : Int), (0 : Int), (0 : Int))).bind fun o => match o with
     | .inl o1 => some ((o1.1 == ((pkP d y).1.length : Int)) && (o1.2 == ((pkP d z).1.length : Int)))
     | .inr o1 => some o1)) ((iter (AN d n v (pkP d x) (pkP d y) (pkP d z)) FUEL ((0 : Int), (0 : Int), (0 : Int))).bind fun o => match o with
     | .inl o1 => some ((o1.1 == ((pkP d y).1.length : Int)) && (o1.2 == ((pkP d z).1.length : Int)))
     | .inr o1 => some o1)) = some true
  by_cases h1 : (pkP d x).2.2 = 0
  ·by_cases h2 : (pkP d y).2.2 = 0
   ·by_cases h3 : (pkP d z).2.2 = 0
    ·rcases Uy hs q n v hB hn hu hv hx hy hz h1 h2 h3 with ⟨L, e1, e2, e3, hA⟩ | ⟨A, hA, e1, e2, e3⟩
     ·rw [e1, e2, e3];simp only [bne_self_eq_false, Bool.or_false, bc]
      cases L with
      | nil => rfl
      | cons t L =>
       have := hA t List.mem_cons_self;rw [bf (by simp only [bi]; omega), bb, show idx (t :: L) (0 : Int) = some t from AD (l := t :: L) (i := 0) (by simp), ba, this, bb]
     ·have hloop := OH hs n v hA (0, 0);rw [e1, e2, e3, hloop];simp only [bne_self_eq_false, Bool.or_false, bc, ba, List.length_map, beq_self_eq_true, Bool.and_true]
      cases hf : (A.filter fun s => I0 n none s.node) with
      | nil => rfl
      | cons s l =>
       rw [bf (by simp only [bi]; omega), bb, List.map_cons, show idx (trS s :: l.map trS) (0 : Int) = some (trS s) from AD (l := trS s :: l.map trS) (i := 0) (by simp)];rfl
    ·rw [show ((pkP d z).2.2 != (0 : Int)) = true by simpa using h3, Bool.or_true, bb]
   ·rw [show ((pkP d y).2.2 != (0 : Int)) = true by simpa using h2, Bool.or_true, Bool.true_or, bb]
  ·rw [show ((pkP d x).2.2 != (0 : Int)) = true by simpa using h1, Bool.true_or, Bool.true_or, bb]
 by_cases hU : n.URI = []
 ·rw [show (n.URI == ([] : List By8)) = true by rw [hU]; rfl, Bool.not_true, bc, DC (by simp only [bi, bj]; omega), ba, DC (by simp only [bk, bi, bj]; omega), ba];have ea : (([91, 64] : List By8) ++ n.Local) ++ ([93] : List By8) = 91 :: Dx n none := by
   unfold Dx Fu; rw [if_pos hU]; simp [Gp]
  exact core _ ea
 ·rw [show (n.URI == ([] : List By8)) = false by rw [beq_eq_false_iff_ne]; exact hU, Bool.not_false, bb, DC (by simp only [bi, bj]; omega), ba, DC (by simp only [bk, bi, bj]; omega), ba];rw [DC (by simp only [bk, bi, bj]; omega), ba, DC (by simp only [bk, bi, bj]; omega), ba, ba, DC (by simp only [bk, bi, bj]; omega), ba];have ea : (((([91, 64] : List By8) ++ n.Local) ++ ([123] : List By8)) ++ n.URI) ++ ([125, 93] : List By8) = 91 :: Dx n none := by
   unfold Dx Fu; rw [if_neg hU]; simp [Gp]
  exact core _ ea

set_option linter.unusedVariables false
theorem Kc (d : Ab) (q : List By8) (n : Aa) (v : List By8) {b0 b1 b2 b3 : Nat} (t0 : szN d <= b0) (t1 : q.length + 1 <= b1) (t2 : (n.URI.length + 1 + (n.Local.length + 1 + 0)) + 1 <= b2) (t3 : v.length + 1 <= b3) (hb : b0 + b1 + b2 + b3 <= 1048576) (hp : Heap) :
  CallsA prog 9 [.agg (Ae d), .str q, .agg (As n), .str v] hp fun d _ => d = .bool true :=
 have h8 := Af4 d
 (F9 d q n v (G := fun b => b = true) hp ⟨true, L4 d q n v (by omega) (by omega), rfl⟩).mono fun d h' ⟨r, hr, hd⟩ => by subst hr; exact hd

set_option linter.unusedVariables false
set_option maxRecDepth 100000
open Go.ChangeShapes Go.WideShapes Go.ChangeAt Go.RowKit Go.Lib
def MF (x : Ab) : Prop := True
theorem IF {H : Type} {enc : TypeId × Value -> H} {w : World} {base : Nat} {held : Bool} : ∀ N : Nat, B.Rds N enc prog w base (fun _ => true) held 27 MF Ba Ae
 | 0 => B.Rds.zero
 | N + 1 => B.rd_structS underlying27 (.cons (k := 1) rfl (by kernel_rfl) (B.rd_int underlying3) (.cons (k := 2) rfl (by kernel_rfl) (B.rd_struct underlying23 (.cons (k := 1) rfl (by kernel_rfl) (B.rd_str underlying9) (.cons (k := 1) rfl (by kernel_rfl) (B.rd_str underlying9) .nil)) (by kernel_rfl) (ok' := (fun x : Aa => ((fun s : List By8 => s.length <= 9223372036854775807)) x.URI /\ ((fun s : List By8 => s.length <= 9223372036854775807)) x.Local /\ True)) (sz' := (fun x : Aa => ((fun s : List By8 => s.length + 1) x.URI + ((fun s : List By8 => s.length + 1) x.Local + 0)) + 1)) (c' := As) (fun y => (⟨y.1, y.2.1⟩ : Aa)) (fun y h => ⟨h, rfl, rfl⟩)) (.cons (k := 1) rfl (by kernel_rfl) (B.rd_slice underlying24 (k := 3) (by kernel_rfl) (by decide) (fun _ _ => rfl) (B.rd_struct underlying56 (.cons (k := 2) rfl (by kernel_rfl) (B.rd_struct underlying23 (.cons (k := 1) rfl (by kernel_rfl) (B.rd_str underlying9) (.cons (k := 1) rfl (by kernel_rfl) (B.rd_str underlying9) .nil)) (by kernel_rfl) (ok' := (fun x : Aa => ((fun s : List By8 => s.length <= 9223372036854775807)) x.URI /\ ((fun s : List By8 => s.length <= 9223372036854775807)) x.Local /\ True)) (sz' := (fun x : Aa => ((fun s : List By8 => s.length + 1) x.URI + ((fun s : List By8 => s.length + 1) x.Local + 0)) + 1)) (c' := As) (fun y => (⟨y.1, y.2.1⟩ : Aa)) (fun y h => ⟨h, rfl, rfl⟩)) (.cons (k := 1) rfl (by kernel_rfl) (B.rd_str underlying9) .nil)) (by kernel_rfl) (ok' := (fun x : Ah => ((fun x : Aa => ((fun s : List By8 => s.length <= 9223372036854775807)) x.URI /\ ((fun s : List By8 => s.length <= 9223372036854775807)) x.Local /\ True)) x.Name /\ ((fun s : List By8 => s.length <= 9223372036854775807)) x.Value /\ True)) (sz' := (fun x : Ah => ((fun x : Aa => ((fun s : List By8 => s.length + 1) x.URI + ((fun s : List By8 => s.length + 1) x.Local + 0)) + 1) x.Name + ((fun s : List By8 => s.length + 1) x.Value + 0)) + 1)) (c' := An) (fun y => (⟨y.1, y.2.1⟩ : Ah)) (fun y h => ⟨h, rfl, rfl⟩))) (.cons (k := 1) rfl (by kernel_rfl) (B.rd_slice underlying25 (k := 6) (by kernel_rfl) (by decide) (fun y _ => by rw [Ac]; rfl) (IF N)) (.cons (k := 1) rfl (by kernel_rfl) (B.rd_str underlying9) .nil))))) (by kernel_rfl) (fun y => (⟨y.1, y.2.1, y.2.2.1, y.2.2.2.1, y.2.2.2.2.1⟩ : Ab)) (fun y h => ⟨trivial, by show Ba (⟨_, _, _, _, _⟩ : Ab) = _; rw [Ba, KO], by rw [Ac]; rfl⟩)
end Go.Proofs.YtmnbjcpikllknaaGreatDoor
