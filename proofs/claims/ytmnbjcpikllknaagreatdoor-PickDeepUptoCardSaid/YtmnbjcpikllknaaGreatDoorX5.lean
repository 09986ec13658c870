/- Conditions always answer; PickStands. No condition. -/
import Derived.Test.YtmnbjcpikllknaaGreatDoorX2
import Derived.Test.YtmnbjcpikllknaaGreatDoorX3
import Derived.Test.YtmnbjcpikllknaaGreatDoorX6
import Derived.Test.YtmnbjcpikllknaaGreatDoorX4
import Derived.Test.YtmnbjcpikllknaaGreatDoorWk
set_option linter.unusedSimpArgs false
set_option linter.unusedVariables false
set_option maxRecDepth 20000
namespace Go.Proofs.YtmnbjcpikllknaaGreatDoor
open Go.Proofs.Tryz
open Fl
theorem Ab6 {l : List Aj} {f : Aj -> Option Bool} (hl : l.length <= 1073741824) (h : ∀ x ∈ l, ∃ b, f x = some b) : Ax l f = some (-1) \/
  ∃ i, ∃ hi : i < l.length, Ax l f = some (i : Int) := by
 unfold Ax;simp only [letJ]
 obtain ⟨o, e, hR⟩ := AU (b := Aw l f) (fun i s => s = (i : Int)) (fun o => match o with | .inl _ => True | .inr z => ∃ i, ∃ hi : i < l.length, z = (i : Int)) l.length (x0 := (0 : Int)) rfl (by
  rintro i _ rec hi rfl;obtain ⟨b, hb⟩ := h _ (bm hi);unfold Aw;rw [bf (by omega), bb, AE hi, ba, hb, ba]
  cases b with
  | true => exact .inr ⟨_, rfl, i, hi, rfl⟩
  | false =>
   refine .inl ⟨((i + 1 : Nat) : Int), ?_, rfl⟩
   rw [bc, w64 (by omega) (by omega)]; rfl) (by
  rintro _ rec rfl;refine ⟨.inl (), ?_, trivial⟩;unfold Aw
  rw [bg (by omega), bc]) (n := FUEL) (by unfold FUEL; omega)
 rw [e, ba]
 cases o with
 | inl u => exact .inl rfl
 | inr z => obtain ⟨i, hi, rfl⟩ := hR; exact .inr ⟨i, hi, rfl⟩
theorem Abi {x : Nat} (h : WhF x) : ∃ a : Int, isI x a /\ a.natAbs <= 10000000 := by
 obtain ⟨a, h1, h2, rfl | rfl⟩ := h
 ·exact ⟨a, VJ a (by omega), by omega⟩
 ·exact ⟨-a, W8 (VJ a (by omega)), by omega⟩
theorem L2 {f : List Am} {L : FgW} (H : FigW f L) {z : Nat × Nat} (h1 : WhF z.1) (h2 : WhF z.2) : ∃ r, Dp f z = some r := by
 obtain ⟨a, ha, ha2⟩ := Abi h1;obtain ⟨b, hb, hb2⟩ := Abi h2;have hz : Sp z (a, b) := ⟨ha, hb⟩
 by_cases hp : InB (a, b)
 ·exact ⟨_, Vu H hz hp⟩
 ·have hs := T5 hz (by simp only; omega) (by simp only; omega);have hf : (inB a && inB b) = false := by
   cases h : (inB a && inB b) with
   | false => rfl
   | true => exact absurd ((Uq (a, b)).1 h) hp
  unfold Dp;rw [QZ H.fig, ba];simp only [letJ];rw [Bool.not_true, bc, hs, ba];dsimp only;rw [hf];exact ⟨_, rfl⟩
theorem SJ {c : Ad} (hc : CP c) (n : Ab) (hn : szN n <= 1048576) : ∃ b, B6 c n = some b := by
 have hl := Gq n;unfold B6;rcases Ab6 (l := n.Attrs) (f := fun z0 => Da z0 c) (by omega) (fun x _ => ⟨_, rfl⟩) with e | ⟨i, hi, e⟩
 ·rw [e, ba]; exact ⟨_, rfl⟩
 ·rw [e, ba]
  cases ((decide ((i : Int) < (0 : Int))) || (n.Kind != (2 : Int))) with
  | true => exact ⟨_, rfl⟩
  | false =>
   rw [bc, AE hi, ba]
   cases (c.kind == (61 : Int)) with
   | true => exact ⟨_, rfl⟩
   | false =>
    rw [bc]
    cases hk : (c.kind == (126 : Int)) with
    | false => exact ⟨_, rfl⟩
    | true =>
     obtain ⟨s1, s2⟩ := hc.s (by simpa using hk);have hv := (QI (x := n) (bm hi)).2.2;rw [bb];rcases Zf n.Attrs[i].Value (by omega) with ⟨f, L, e1, h1, h2⟩ | ⟨pl, er, _, e1⟩
     ·obtain ⟨r, hr⟩ := L2 (h1.figW h2) s1 s2;rw [e1, ba];dsimp only;rw [hr]; exact ⟨_, rfl⟩
     ·obtain ⟨r, hr⟩ := L2 (FR.nil.figW (by simp [Jl])) s1 s2;rw [e1, ba];dsimp only;rw [hr]; exact ⟨_, rfl⟩
theorem Aed {N : Nat} (hN : N <= 1048576) (q : List By8) (hq : q.length <= 1048576) : ∃ x, RdOk N q x := by
 obtain ⟨x, h1, h2, h3, h4⟩ := YW q hq;exact ⟨x, h1, h2, fun st hst => ⟨fun c hc => ⟨fun n hn => SJ ((h3 st hst).1 c hc) n (Nat.le_trans hn hN), ((h3 st hst).1 c hc).k⟩, Nat.le_trans (h3 st hst).2 (by omega)⟩, h4⟩

set_option linter.unusedSimpArgs false
set_option linter.unusedVariables false
set_option maxRecDepth 100000
theorem Yq (d : Ab) (h : szN d <= 1048576) (k : Int) : BK d k = some (decide (((Dn d).length : Int) <= k)) := by
 unfold BK;rw [Ac6 d h, ba]
theorem Kj : ∀ (l m : List Ab) (i : Nat), C2 i (l ++ m) = C2 i l ++ C2 (i + l.length) m
 | [], m, i => by simp [C2]
 | x :: l, m, i => by
  simp only [List.cons_append, C2, Kj l m (i + 1), List.append_assoc, bi];rw [show i + 1 + l.length = i + (l.length + 1) by omega]
theorem Qe {l : List Ab} {i : Nat} (h : i < l.length) : C2 0 (l.take (i + 1)) = C2 0 (l.take i) ++ (DQ l[i]).map ((i : Int) :: ·) := by
 rw [List.take_succ_eq_append_getElem h, Kj, List.length_take, show 0 + min i l.length = i by omega];simp [C2]
theorem Lq (l : List Ab) (i : Nat) : (C2 0 (l.take i)).length <= (C2 0 l).length := by
 have := Kj (l.take i) (l.drop i) 0;rw [List.take_append_drop] at this;rw [this, bk]; omega
theorem OA (x : Ab) : DQ x = [] :: C2 0 x.Kids := by cases x; simp only [DQ]
theorem O0 : ∀ (n : Nat) (x : Ab) (p : List Int), szN x < n -> p ∈ DQ x -> ∃ y, atP x p = some y
 | 0, _, _, h, _ => by omega
 | n + 1, x, p, h, hp => by
  have key : ∀ (l : List Ab) (i : Nat) (q : List Int), (∀ k ∈ l, k ∈ x.Kids) -> q ∈ C2 i l -> ∃ (j : Nat) (r : List Int) (hj : j < l.length), q = ((i + j : Nat) : Int) :: r /\ r ∈ DQ l[j] := by
   intro l
   induction l with
   | nil => intro i q _ hq; simp [C2] at hq
   | cons k l ih =>
    intro i q hl hq;simp only [C2, List.mem_append, List.mem_map] at hq;rcases hq with ⟨r, hr, rfl⟩ | hq
    ·exact ⟨0, r, by simp, rfl, hr⟩
    ·obtain ⟨j, r, hj, rfl, hr⟩ := ih (i + 1) q (fun k hk => hl k (List.mem_cons_of_mem _ hk)) hq;exact ⟨j + 1, r, by simpa using hj, by rw [show i + 1 + j = i + (j + 1) by omega], by simpa using hr⟩
  rw [OA, List.mem_cons] at hp;rcases hp with rfl | hp
  ·exact ⟨x, rfl⟩
  ·obtain ⟨j, r, hj, rfl, hr⟩ := key x.Kids 0 p (fun _ h => h) hp;have hk := I5 (bm hj);obtain ⟨y, hy⟩ := O0 n x.Kids[j] r (by omega) hr;refine ⟨y, ?_⟩;have := Nu [((j : Nat) : Int)] r x;rw [List.singleton_append] at this;rw [Nat.zero_add, this];have e1 : atP x [((j : Nat) : Int)] = some x.Kids[j] := by
    have h2 := NL [] x j;rw [List.nil_append] at h2;rw [h2];simp [atP, List.getElem?_eq_getElem hj]
   rw [e1]; exact hy
theorem Rk : ∀ (n : Nat) (p : Ab), szN p < n -> szN p <= 1048576 -> iter Bt n p = some (DQ p)
 | 0, p, h, _ => by omega
 | n + 1, p, h, hl => by
  have hk := Ff p;have hkl := EV p;have ih := fun q => Rk n q;rw [BH];generalize iter Bt n = rc at ih ⊢;unfold Bt;simp only [letJ];have hL := Kf p.Kids 0
  obtain ⟨o, e, hR⟩ := AU (b := Ce p rc) (fun i s => s = ([] :: C2 0 (p.Kids.take i), (i : Int))) (fun o => o = [] :: C2 0 p.Kids) p.Kids.length (x0 := ([([] : List Int)], (0 : Int))) (by simp [C2]) (by
   rintro i _ rec hi rfl;left;have h1 := Jo (bm hi);have hP := JY p.Kids[i];have hT := Lq p.Kids i;refine ⟨_, ?_, rfl⟩;unfold Ce;simp only [letJ];rw [bf (by omega), bb, AE hi, ba, ih p.Kids[i] (by omega) (by omega), ba]
   obtain ⟨o, e, rfl⟩ := AU (b := Cg (i : Int) (DQ p.Kids[i])) (fun j s => s = ([] :: C2 0 (p.Kids.take i) ++ ((DQ p.Kids[i]).take j).map ((i : Int) :: ·), (j : Int))) (fun o => o = [] :: C2 0 (p.Kids.take i) ++ (DQ p.Kids[i]).map ((i : Int) :: ·)) (DQ p.Kids[i]).length (x0 := ([] :: C2 0 (p.Kids.take i), (0 : Int))) (by simp) (by
    rintro j _ rec hj rfl;left;obtain ⟨y, hy⟩ := O0 _ p.Kids[i] _ (Nat.lt_succ_self _) (bm hj);have hpl := Nz _ _ _ hy;refine ⟨_, ?_, rfl⟩;unfold Cg;dsimp only;rw [bf (by omega), bb, AE hj, ba, Cm (by simp only [bi, bj]; omega) (by simp only [bi, bj]; omega), ba, Cm (by simp only [bk, bi, bj, List.length_map, List.length_take]; omega) (by simp only [bk, bi, bj, List.length_map, List.length_take]; omega), ba, ZQ (by omega), List.take_succ_eq_append_getElem hj, List.map_append, <- List.append_assoc]
    rfl) (by
    rintro _ rec rfl;refine ⟨_, ?_, rfl⟩;unfold Cg;dsimp only
    rw [bg (by omega), bc, List.take_length]) (n := FUEL) (by unfold FUEL; omega)
   rw [e, ba, w64 (by omega) (by omega), Qe hi]
   simp) (by
   rintro _ rec rfl;refine ⟨_, ?_, rfl⟩;unfold Ce;dsimp only
   rw [bg (by omega), bc, List.take_length]) (n := FUEL) (by unfold FUEL; omega)
  rw [e, ba, hR, OA]
theorem Y8 (d : Ab) (h : szN d <= 1048576) : BS d = some (DQ d) := Rk FUEL d (by unfold FUEL; omega) h
def dg (m : Nat) : List By8 := if m < 10 then [UInt8.ofNat (48 + m)] else [UInt8.ofNat (48 + m / 10), UInt8.ofNat (48 + m % 10)]
theorem Aaa : ((List.range 62).all fun m => decide (m = 0) || (BC (m : Int) == some (dg m))) = true := by kernel_rfl
theorem We (m : Nat) (h1 : 1 <= m) (h : m <= 61) : BC (m : Int) = some (dg m) := by
 have := (List.all_eq_true.1 Aaa) m (List.mem_range.2 (by omega));simp only [Bool.or_eq_true, decide_eq_true_eq, beq_iff_eq] at this;exact this.resolve_left (by omega)
theorem Ra (m : Nat) : 1 <= (dg m).length /\ (dg m).length <= 2 := by unfold dg; split <;> simp
abbrev Wf : List By8 := [47, 110, 111, 100, 101, 40, 41, 91]
def JX (i : Int) : List By8 := Wf ++ (dg (i.toNat + 1) ++ [93])
theorem TE (i : Int) : (JX i).length <= 11 := by
 have := Ra (i.toNat + 1);unfold JX;simp only [bk, bi, bj]; omega
def Eu (p : List Int) : List By8 := p.flatMap JX
theorem L3 (p : List Int) : (Eu p).length <= 11 * p.length := by
 unfold Eu
 induction p with
 | nil => simp
 | cons i p ih =>
  have := TE i;simp only [List.flatMap_cons, bk, bi]; omega
def Sm (p : List Int) : Prop := ∀ i ∈ p, 0 <= i /\ i <= 60
theorem SH (p : List Int) (hs : Sm p) (hl : p.length <= 1048576) : Cp p = some (Eu p) := by
 unfold Cp;simp only [letJ]
 obtain ⟨o, e, rfl⟩ := AU (b := BZ p) (fun i s => s = (Eu (p.take i), (i : Int))) (fun o => o = Eu p) p.length (x0 := (([] : List By8), (0 : Int))) rfl (by
  rintro i _ rec hi rfl;left;obtain ⟨a1, a2⟩ := hs _ (bm hi);have hT := L3 (p.take i);rw [List.length_take] at hT;have hd := Ra (p[i].toNat + 1);refine ⟨_, ?_, rfl⟩;unfold BZ;dsimp only;have hdig : BC (p[i] + 1) = some (dg (p[i].toNat + 1)) := by
   have := We (p[i].toNat + 1) (by omega) (by omega);rw [show ((p[i].toNat + 1 : Nat) : Int) = p[i] + 1 by omega] at this;exact this
  rw [bf (by omega), bb, AE hi, ba, HG (by simp only [bi, bj]; omega), ba, w64 (x := p[i] + 1) (by omega) (by omega), hdig, ba, HG (by simp only [bk, bi, bj]; omega), ba, HG (by simp only [bk, bi, bj]; omega), ba, ZQ (by omega)];have : Eu (p.take (i + 1)) = ((Eu (p.take i) ++ Wf) ++ dg (p[i].toNat + 1)) ++ [93] := by
   unfold Eu;rw [List.take_succ_eq_append_getElem hi, List.flatMap_append];simp [JX]
  rw [this]) (by
  rintro _ rec rfl;refine ⟨_, ?_, rfl⟩;unfold BZ;dsimp only
  rw [bg (by omega), bc, List.take_length]) (n := FUEL) (by unfold FUEL; omega)
 rw [e, ba]

set_option linter.unusedSimpArgs false
set_option linter.unusedVariables false
set_option linter.unusedSectionVars false
set_option maxRecDepth 100000
def Fg : List By8 := [110, 111, 100, 101]
def Fs (i : Int) : Ag := ⟨false, false, Fg, ⟨[], Fg⟩, [⟨91, i + 1, ⟨[], []⟩, [], (0, 0)⟩]⟩
theorem R7 {z : By8} (h : z ∈ Fg) : CB (z.toNat : Int) = some true /\ CC (z.toNat : Int) = some true /\ z.toNat < 128 := by
 simp only [Fg, List.mem_cons, List.not_mem_nil, or_false] at h;rcases h with rfl | rfl | rfl | rfl <;> exact ⟨rfl, rfl, by decide⟩
section
variable {Q : List By8} (hQ : Q.length <= 8388608)
include hQ
theorem NZ {k : Nat} {l : List By8} (h : Q.drop k = l) (h0 : l ≠ []) : Q.length = k + l.length := by
 have h1 := congrArg List.length h;rw [List.length_drop] at h1;have : 0 < l.length := List.length_pos_iff.2 h0;omega
theorem Ly {k : Nat} {a b : List By8} (h : Q.drop k = a ++ b) : Q.drop (k + a.length) = b := by rw [<- List.drop_drop, h, List.drop_left]
theorem Aae {k : Nat} {w B : List By8} {z : By8} (h : Q.drop k = w ++ z :: B) (hw : w ≠ []) (hp : ∀ c ∈ w, CB (c.toNat : Int) = some true /\ CC (c.toNat : Int) = some true /\ c.toNat < 128) (hz : CB (z.toNat : Int) = some false /\ z.toNat < 128) (h123 : z ≠ 123) :
  AI ⟨Q, (k : Int)⟩ = some (.inr (⟨[], w⟩, ⟨Q, ((k + w.length : Nat) : Int)⟩)) := by
 have hl := NZ hQ h (by simp);rw [bk, bi] at hl;have hd : ∀ a, a <= w.length -> Q.drop (k + a) = w.drop a ++ z :: B := fun a ha => by
  rw [<- List.drop_drop, h, List.drop_append, show a - w.length = 0 by omega, List.drop_zero]
 have hw0 : 0 < w.length := List.length_pos_iff.2 hw
 obtain ⟨o, e, rfl⟩ := AU (b := A3 ⟨Q, (k : Int)⟩) (fun i x => x = (Q, ((k + i : Nat) : Int))) (fun o => o = (Q, ((k + w.length : Nat) : Int))) w.length (x0 := (Q, (k : Int))) rfl (by
  rintro i _ rec hi rfl;left;refine ⟨_, ?_, rfl⟩;obtain ⟨p1, p2, p3⟩ := hp _ (bm hi);unfold A3;simp only [letJ];rw [bf (by omega), bb, Er (by omega), ba, hd i (by omega), List.drop_eq_getElem_cons hi, List.cons_append, Lc _ _ p3, ba, p1, p2, w64 (x := ((k + i : Nat) : Int) + 1) (by omega) (by omega)];simp only [ba]
  rw [show (((w[i].toNat : Int) == (65533 : Int)) && (decide ((1 : Int) < (3 : Int)))) = false by
   rw [show ((w[i].toNat : Int) == (65533 : Int)) = false by rw [beq_eq_false_iff_ne]; omega]; rfl]
  cases (((k + i : Nat) : Int) == (k : Int)) <;> rfl) (by
  rintro _ rec rfl;refine ⟨_, ?_, rfl⟩;have := hd w.length (Nat.le_refl _);rw [List.drop_length, List.nil_append] at this;unfold A3;simp only [letJ];rw [bf (by omega), bb, Er (by omega), ba, this, Lc _ _ hz.2, ba, hz.1];simp only [ba]
  cases (((z.toNat : Int) == (65533 : Int)) && (decide ((1 : Int) < (3 : Int)))) <;> rfl) (n := FUEL) (by unfold FUEL; omega)
 unfold AI;simp only [letJ];rw [e, ba];simp only;rw [show ((((k + w.length : Nat) : Int)) == (k : Int)) = false by rw [beq_eq_false_iff_ne]; omega, bc];have hs : slc Q (k : Int) ((k + w.length : Nat) : Int) = some w := by
  unfold slc;rw [if_pos (by omega), Int.toNat_natCast, Int.toNat_natCast, h, show k + w.length - k = w.length by omega, List.take_left'];rfl
 have hd2 := Ly hQ h
 have hb : (z.toNat : Int) ≠ 123 := fun hh => h123 (by
  apply UInt8.toNat_inj.1;show z.toNat = 123
  omega)
 rw [hs, ba, Kd hQ hd2, ba, if_neg hb];rfl
theorem Wb {k m : Nat} {B : List By8} (h : Q.drop k = dg m ++ 93 :: B) (h1 : 1 <= m) (h61 : m <= 61) : AN ⟨Q, (k : Int)⟩ (6 : Int) false = some (.inr ((m : Int), ⟨Q, ((k + (dg m).length : Nat) : Int)⟩)) := by
 have hl := NZ hQ h (by simp);rw [bk, bi] at hl;obtain ⟨f, hf⟩ : ∃ f, FUEL = f + 3 := ⟨FUEL - 3, by unfold FUEL; rfl⟩
 have at_ : ∀ (j : Nat) (c : By8), (dg m ++ 93 :: B)[j]? = some c -> idx Q ((k + j : Nat) : Int) = some c := fun j c hj => by
  rw [<- h, List.getElem?_drop] at hj;obtain ⟨h2, h3⟩ := List.getElem?_eq_some_iff.1 hj;rw [AE h2, h3]
 have turn : ∀ (rec : List By8 × Int × Int -> Option (List By8 × Int × Int)) (j d : Nat) (v : Int), (dg m ++ 93 :: B)[j]? = some (UInt8.ofNat (48 + d)) -> d <= 9 -> j <= 2 -> (j = 0 -> 1 <= d) -> 0 <= v -> v <= 100 ->
   A0 ⟨Q, (k : Int)⟩ (6 : Int) false rec (Q, ((k + j : Nat) : Int), v) = rec (Q, ((k + (j + 1) : Nat) : Int), 10 * v + (d : Int)) := by
  intro rec j d v hj hd hj2 h0 hv1 hv2;have hi := at_ j _ hj;have hc : ((UInt8.ofNat (48 + d)).toNat : Int) = 48 + (d : Int) := by rw [UInt8.toNat_ofNat']; omega
  have hlt : k + j < Q.length := by
   have h3 := hj;rw [<- h, List.getElem?_drop] at h3;exact (List.getElem?_eq_some_iff.1 h3).1
  unfold A0;simp only [letJ];rw [w64 (x := (k : Int) + 6) (by omega) (by omega), bf (by omega), bb, bf (by omega), bb, hi];simp only [ba];rw [hc, bf (by omega), bb, bf (by omega), bb];have hw : IntKind.wrap .i64 (IntKind.wrap .u8 (48 + (d : Int) - 48)) = (d : Int) := by
   rw [show (48 : Int) + (d : Int) - 48 = (d : Int) by omega];have : ∀ k : Nat, k <= 9 -> IntKind.wrap .i64 (IntKind.wrap .u8 (k : Int)) = (k : Int) := by decide
   exact this d hd
  rw [hw, w64 (x := 10 * v) (by omega) (by omega), w64 (x := 10 * v + (d : Int)) (by omega) (by omega), w64 (x := ((k + j : Nat) : Int) + 1) (by omega) (by omega), show ((k + j : Nat) : Int) + 1 = ((k + (j + 1) : Nat) : Int) by omega];by_cases hz : j = 0
  ·have := h0 hz;rw [show ((48 : Int) + (d : Int) == (48 : Int)) = false by rw [beq_eq_false_iff_ne]; omega];cases (((k + j : Nat) : Int) == (k : Int)) <;> rfl
  ·rw [show (((k + j : Nat) : Int) == (k : Int)) = false by rw [beq_eq_false_iff_ne]; omega];rfl
 have stop : ∀ (rec : List By8 × Int × Int -> Option (List By8 × Int × Int)) (j : Nat) (v : Int), (dg m ++ 93 :: B)[j]? = some 93 -> j <= 2 -> A0 ⟨Q, (k : Int)⟩ (6 : Int) false rec (Q, ((k + j : Nat) : Int), v) = some (Q, ((k + j : Nat) : Int), v) := by
  intro rec j v hj hj2;have hi := at_ j _ hj;have hlt : k + j < Q.length := by
   have h3 := hj;rw [<- h, List.getElem?_drop] at h3;exact (List.getElem?_eq_some_iff.1 h3).1
  unfold A0;simp only [letJ];rw [w64 (x := (k : Int) + 6) (by omega) (by omega), bf (by omega), bb, bf (by omega), bb, hi];rfl
 have key : iter (A0 ⟨Q, (k : Int)⟩ (6 : Int) false) FUEL (Q, (k : Int), (0 : Int)) = some (Q, ((k + (dg m).length : Nat) : Int), (m : Int)) := by
  rw [hf];have st : (Q, (k : Int), (0 : Int)) = (Q, ((k + 0 : Nat) : Int), (0 : Int)) := rfl;rw [st, BH];by_cases h10 : m < 10
  ·have ed : dg m = [UInt8.ofNat (48 + m)] := by unfold dg; rw [if_pos h10]
   rw [turn _ 0 m 0 (by rw [ed]; rfl) (by omega) (by omega) (fun _ => h1) (by omega) (by omega), BH, stop _ 1 _ (by rw [ed]; rfl) (by omega), ed];simp
  ·have ed : dg m = [UInt8.ofNat (48 + m / 10), UInt8.ofNat (48 + m % 10)] := by unfold dg; rw [if_neg h10]
   rw [turn _ 0 (m / 10) 0 (by rw [ed]; rfl) (by omega) (by omega) (fun _ => by omega) (by omega) (by omega), BH, turn _ 1 (m % 10) _ (by rw [ed]; rfl) (by omega) (by omega) (fun h => by omega) (by omega) (by omega), BH, stop _ 2 _ (by rw [ed]; rfl) (by omega), ed];have : 10 * (10 * (0 : Int) + ((m / 10 : Nat) : Int)) + ((m % 10 : Nat) : Int) = (m : Int) := by omega
   rw [this]; rfl
 unfold AN;simp only [letJ];rw [key, ba];have := Ra m;simp only;rw [show ((((k + (dg m).length : Nat) : Int)) == (k : Int)) = false by rw [beq_eq_false_iff_ne]; omega, bc]
theorem Aam {k : Nat} {i : Int} {B : List By8} (h : Q.drop k = JX i ++ B) (hi : 0 <= i /\ i <= 60) (hB : B = [] \/ ∃ C, B = 47 :: C) : Ay ⟨Q, (k : Int)⟩ = some (.inr (Fs i, ⟨Q, ((k + (JX i).length : Nat) : Int)⟩)) := by
 have hT : JX i ++ B = 47 :: (Fg ++ 40 :: (41 :: 91 :: (dg (i.toNat + 1) ++ 93 :: B))) := by unfold JX Wf Fg; simp
 rw [hT] at h;have h1 := (Dw h).2.2;have h1' : Q.drop (k + 1) = 110 :: ([111, 100, 101] ++ 40 :: (41 :: 91 :: (dg (i.toNat + 1) ++ 93 :: B))) := h1;have hname := Aae hQ h1 (by decide) (fun c hc => R7 hc) ⟨rfl, by decide⟩ (by decide);have h2 := Ly hQ h1;have h3 := (Dw h2).2.2;have h4 := (Dw h3).2.2;have h5 := (Dw h4).2.2;have hdig := Wb hQ h5 (by omega) (by omega);have h6 := Ly hQ h5;have h7 := (Dw h6).2.2;have hd0 : ∃ c t, Q.drop (k + 1 + Fg.length + 1 + 1 + 1) = c :: t /\ (c.toNat : Int) ≠ 64 := by
  have hlen := Ra (i.toNat + 1);rw [h5];unfold dg;split
  ·rename_i hlt;exact ⟨_, _, rfl, by rw [UInt8.toNat_ofNat']; omega⟩
  ·exact ⟨_, _, rfl, by rw [UInt8.toNat_ofNat']; omega⟩
 obtain ⟨c0, t0, hc0, hc64⟩ := hd0;have hcond : A1 ⟨Q, ((k + 1 + Fg.length + 1 + 1 + 1 : Nat) : Int)⟩ = some (.inr (⟨91, i + 1, ⟨[], []⟩, [], (0, 0)⟩, ⟨Q, ((k + 1 + Fg.length + 1 + 1 + 1 + (dg (i.toNat + 1)).length + 1 : Nat) : Int)⟩)) := by
  unfold A1;simp only [letJ];rw [Kd hQ hc0, ba, if_neg hc64];simp only [Bool.not_false, bb];rw [hdig, ba];show ((Az ⟨Q, ((k + 1 + Fg.length + 1 + 1 + 1 + (dg (i.toNat + 1)).length : Nat) : Int)⟩ 93).bind _) = _;rw [KA hQ h6 93 (by decide), ba, show ((i.toNat + 1 : Nat) : Int) = i + 1 by omega];rfl
 have hend : ∃ b, Av ⟨Q, ((k + 1 + Fg.length + 1 + 1 + 1 + (dg (i.toNat + 1)).length + 1 : Nat) : Int)⟩ 91 = some (false, b) /\ b = ⟨Q, ((k + 1 + Fg.length + 1 + 1 + 1 + (dg (i.toNat + 1)).length + 1 : Nat) : Int)⟩ := by
  rcases hB with rfl | ⟨C, rfl⟩
  ·have : k + 1 + Fg.length + 1 + 1 + 1 + (dg (i.toNat + 1)).length + 1 = Q.length := by
    have := NZ hQ h6 (by simp);simp only [bi, bj] at this;omega
   rw [this];exact ⟨_, Oe Q 91, rfl⟩
  ·exact ⟨_, by rw [Kd hQ h7, if_neg (by decide)], rfl⟩
 obtain ⟨b, hmay, rfl⟩ := hend;have hloop : iter AO FUEL (Q, ((k + 1 + Fg.length + 1 + 1 : Nat) : Int), false, false, Fg, ([] : List By8), Fg, ([] : List Ad)) = some (.inl (false, false, Fg, [], Fg, [⟨91, i + 1, ⟨[], []⟩, [], (0, 0)⟩], Q, ((k + 1 + Fg.length + 1 + 1 + 1 + (dg (i.toNat + 1)).length + 1 : Nat) : Int))) := by
  obtain ⟨f, hf⟩ : ∃ f, FUEL = f + 2 := ⟨FUEL - 2, by unfold FUEL; rfl⟩
  rw [hf, BH]
  conv => lhs; unfold AO
  dsimp only;rw [Kd hQ h4, ba, if_pos (by decide)];dsimp only;rw [bb, hcond, ba];show ((app 80 ([] : List Ad) [(⟨91, i + 1, ⟨[], []⟩, [], (0, 0)⟩ : Ad)]).bind fun _ => iter AO (f + 1) (Q, ((k + 1 + Fg.length + 1 + 1 + 1 + (dg (i.toNat + 1)).length + 1 : Nat) : Int), false, false, Fg, ([] : List By8), Fg, [⟨91, i + 1, ⟨[], []⟩, [], (0, 0)⟩])) = _;rw [Cm (by simp) (by simp), ba, BH]
  conv => lhs; unfold AO
  dsimp only;rw [hmay, ba]; rfl
 have hlen : k + 1 + Fg.length + 1 + 1 + 1 + (dg (i.toNat + 1)).length + 1 = k + (JX i).length := by
  unfold JX Wf Fg;simp only [bk, bi, bj]; omega
 unfold Ay;rw [KA hQ h 47 (by decide), ba];show ((Av ⟨Q, ((k + 1 : Nat) : Int)⟩ 47).bind _) = _;rw [Kd hQ h1', ba, if_neg (by decide)];simp only [letJ, Bool.not_false, bb];rw [Kd hQ h1', ba, if_neg (by decide)];simp only [bc];rw [Kd hQ h1', ba, if_neg (by decide)];simp only [bc];rw [hname, ba];simp only [pnc];rw [Nq h2 40];have e1 : ((([] : List By8) == ([] : List By8)) && ((Fg == Fg) && true)) = true := by decide
 have e2 : ((((40 : By8).toNat : Int) == 40) && (((Fg == ([116, 101, 120, 116] : List By8)) || (Fg == ([99, 111, 109, 109, 101, 110, 116] : List By8))) || (Fg == ([110, 111, 100, 101] : List By8)))) = true := by decide
 rw [e1, bb, ba, e2, bb, KA hQ h2 40 (by decide), ba];simp only [pnc];rw [KA hQ h3 41 (by decide), ba];simp only [pnc];rw [hloop, ba, <- hlen];rfl
end

set_option linter.unusedSimpArgs false
set_option linter.unusedVariables false
set_option maxRecDepth 100000
theorem VV (i : Int) (k : Ab) : PW (Fs i) k = true := by
 have h := PF (Fs i) k;have h2 : Cl (Fs i) k = some true := rfl;rw [h2] at h;exact (Option.some.inj h).symm
theorem Sq {l : List Aj} {f : Aj -> Option Bool} (hl : l.length <= 1073741824) (h : ∀ x ∈ l, ∃ b, f x = some b) : ∃ z, Ax l f = some z /\ (0 <= z -> ∃ i, ∃ hi : i < l.length, z = (i : Int)) := by
 unfold Ax;simp only [letJ]
 obtain ⟨o, e, hR⟩ := AU (b := Aw l f) (fun i s => s = (i : Int)) (fun o => match o with | .inl _ => True | .inr z => ∃ i, ∃ hi : i < l.length, z = (i : Int)) l.length (x0 := (0 : Int)) rfl (by
  rintro i _ rec hi rfl;obtain ⟨b, hb⟩ := h _ (bm hi);unfold Aw;rw [bf (by omega), bb, AE hi, ba, hb, ba]
  cases b with
  | true => exact .inr ⟨_, rfl, i, hi, rfl⟩
  | false => exact .inl ⟨((i + 1 : Nat) : Int), by rw [bc, ZQ (by omega)], rfl⟩) (by
  rintro _ rec rfl;refine ⟨.inl (), ?_, trivial⟩;unfold Aw
  rw [bg (by omega), bc]) (n := FUEL) (by unfold FUEL; omega)
 rw [e, ba]
 cases o with
 | inl u => exact ⟨_, rfl, fun h => absurd h (by decide)⟩
 | inr z => exact ⟨_, rfl, fun _ => hR⟩
theorem Vi {N : Nat} (hN : N <= 1048576) {i : Int} (hi : 0 <= i /\ i <= 60) : OkS N (Fs i) := by
 refine ⟨fun c hc => ?_, by show 1 <= 1073741824; omega⟩;have hc' : c = ⟨91, i + 1, ⟨[], []⟩, [], (0, 0)⟩ := List.mem_singleton.1 hc;subst hc';refine ⟨fun n hn => ?_, fun _ => ⟨by show 1 <= i + 1; omega, by show i + 1 <= _; omega⟩⟩;have hl := Gq n;obtain ⟨z, hz, hz2⟩ := Sq (l := n.Attrs) (f := fun z0 => Da z0 ⟨91, i + 1, ⟨[], []⟩, [], (0, 0)⟩) (by omega) (fun x _ => ⟨_, rfl⟩);unfold B6;rw [hz, ba];by_cases h0 : z < 0
 ·rw [bf h0]; exact ⟨_, rfl⟩
 ·obtain ⟨j, hj, rfl⟩ := hz2 (by omega)
  cases ((decide ((j : Int) < (0 : Int))) || (n.Kind != (2 : Int))) with
  | true => exact ⟨_, rfl⟩
  | false => rw [bc, AE hj]; exact ⟨_, rfl⟩
theorem Yl (i : Nat) (q : List Int) (x y : Ab) (h : x.Kids[i]? = some y) : IK (Fs (i : Int)) [⟨q, x⟩] = [⟨q ++ [(i : Int)], y⟩] := by
 obtain ⟨hj, rfl⟩ := List.getElem?_eq_some_iff.1 h;have e1 : ofP (Fs (i : Int)) ⟨q, x⟩ = [⟨q ++ [(i : Int)], x.Kids[i]⟩] := by
  unfold ofP;have hf : ((EA ⟨q, x⟩).filter fun k => PW (Fs (i : Int)) k.node) = EA ⟨q, x⟩ := List.filter_eq_self.2 fun k _ => VV _ _;rw [hf];show Fr (EA ⟨q, x⟩) ⟨91, (i : Int) + 1, ⟨[], []⟩, [], (0, 0)⟩ = _;unfold Fr;rw [if_pos rfl];show ((Gx q 0 x.Kids).drop (((i : Int) + 1).toNat - 1)).take 1 = _;rw [show ((i : Int) + 1).toNat - 1 = i by omega];have hg := LJ q x.Kids 0 i hj;rw [Nat.zero_add] at hg;obtain ⟨h1, h2⟩ := List.getElem?_eq_some_iff.1 hg;rw [List.drop_eq_getElem_cons h1, h2]; rfl
 show KC Fq (([⟨q, x⟩] : List Spt).flatMap (ofP (Fs (i : Int)))) = _;rw [List.flatMap_cons, List.flatMap_nil, List.append_nil, e1];rfl
theorem ON : ∀ (l : List Ab), l.length <= (DM l).length
 | [] => by simp [DM]
 | x :: l => by
  have := ON l;simp only [DM, bk, bi, F3]; omega
theorem Ib {y : Ab} : ∀ (l : List Ab), y ∈ l -> (Dn y).length <= (DM l).length
 | [], h => by cases h
 | x :: l, h => by
  simp only [DM, bk];rcases List.mem_cons.1 h with rfl | h
  ·omega
  ·have := Ib l h; omega
theorem M7 : ∀ (p : List Int) (x y : Ab), (Dn x).length <= 61 -> atP x p = some y -> Sm p
 | [], _, _, _, _ => fun _ h => by cases h
 | i :: p, x, y, hx, h => by
  simp only [atP] at h;split at h
  ·cases h
  ·rename_i hi;obtain ⟨z, hz, h2⟩ := Option.bind_eq_some_iff.1 h;obtain ⟨hj, rfl⟩ := List.getElem?_eq_some_iff.1 hz;rw [F3, bi] at hx;have h3 := ON x.Kids;have h4 := Ib x.Kids (bm hj);have ih := M7 p _ y (by omega) h2;intro k hk;rcases List.mem_cons.1 hk with rfl | hk
   ·omega
   ·exact ih k hk

set_option linter.unusedSimpArgs false
set_option linter.unusedVariables false
set_option maxRecDepth 100000
mutual
def GD : List Int -> Ab -> List Spt
 | q, ⟨k, nm, a, ks, t⟩ => ⟨q, ⟨k, nm, a, ks, t⟩⟩ :: SO q 0 ks
def SO : List Int -> Nat -> List Ab -> List Spt
 | _, _, [] => []
 | q, i, x :: l => GD (q ++ [(i : Int)]) x ++ SO q (i + 1) l
end
theorem TD (q : List Int) (x : Ab) : GD q x = ⟨q, x⟩ :: SO q 0 x.Kids := by cases x; simp only [GD]
mutual
theorem N8 : ∀ (q : List Int) (x : Ab), (GD q x).map (·.node) = Dn x /\ (GD q x).map (·.path) = (DQ x).map (q ++ ·)
 | q, ⟨k, nm, a, ks, t⟩ => by
  obtain ⟨h1, h2⟩ := QX q 0 ks;simp only [GD, Dn, DQ, List.map_cons, h1, h2, List.append_nil];exact ⟨trivial, trivial⟩
theorem QX : ∀ (q : List Int) (i : Nat) (l : List Ab), (SO q i l).map (·.node) = DM l /\ (SO q i l).map (·.path) = (C2 i l).map (q ++ ·)
 | q, i, [] => by simp [SO, DM, C2]
 | q, i, x :: l => by
  obtain ⟨h1, h2⟩ := N8 (q ++ [(i : Int)]) x;obtain ⟨h3, h4⟩ := QX q (i + 1) l;simp only [SO, DM, C2, List.map_append, h1, h2, h3, h4, List.map_map, true_and];congr 1;apply List.map_congr_left;intro r _;simp
end
theorem RH (x : Ab) (i : Nat) (r : List Int) : atP x ((i : Int) :: r) = (x.Kids[i]?).bind fun z => atP z r := by
 simp only [atP];by_cases h : i < x.Kids.length
 ·rw [if_neg (by omega), Int.toNat_natCast]
 ·rw [if_pos (by omega), List.getElem?_eq_none (by omega)]; rfl
theorem RE : ∀ (n : Nat) (q : List Int) (x : Ab) (s : Spt), szN x < n -> (s ∈ GD q x ↔ ∃ r, s.path = q ++ r /\ atP x r = some s.node)
 | 0, _, _, _, h => by omega
 | n + 1, q, x, s, h => by
  have key : ∀ (l : List Ab) (i : Nat), (∀ k ∈ l, k ∈ x.Kids) -> (s ∈ SO q i l ↔ ∃ (j : Nat) (r : List Int) (z : Ab), l[j]? = some z /\ s.path = q ++ ((i + j : Nat) : Int) :: r /\ atP z r = some s.node) := by
   intro l
   induction l with
   | nil => intro i _; simp [SO]
   | cons k l ih =>
    intro i hl;have hk := I5 (hl k List.mem_cons_self);simp only [SO, List.mem_append];rw [RE n _ k s (by omega), ih (i + 1) (fun k hk => hl k (List.mem_cons_of_mem _ hk))];constructor
    ·rintro (⟨r, h1, h2⟩ | ⟨j, r, z, h1, h2, h3⟩)
     ·exact ⟨0, r, k, rfl, by rw [h1]; simp, h2⟩
     ·exact ⟨j + 1, r, z, by simpa using h1, by rw [h2, show i + 1 + j = i + (j + 1) by omega], h3⟩
    ·rintro ⟨j, r, z, h1, h2, h3⟩
     cases j with
     | zero =>
      simp only [List.getElem?_cons_zero, Option.some.injEq] at h1;subst h1;exact .inl ⟨r, by rw [h2]; simp, h3⟩
     | succ j => exact .inr ⟨j, r, z, by simpa using h1, by rw [h2, show i + 1 + j = i + (j + 1) by omega], h3⟩
  rw [TD, List.mem_cons, key x.Kids 0 (fun _ h => h)];constructor
  ·rintro (rfl | ⟨j, r, z, h1, h2, h3⟩)
   ·exact ⟨[], by simp, rfl⟩
   ·refine ⟨((j : Nat) : Int) :: r, by rw [h2, Nat.zero_add], ?_⟩;rw [RH, h1, ba, h3]
  ·rintro ⟨r, h1, h2⟩
   cases r with
   | nil =>
    left;simp only [atP, Option.some.injEq] at h2;obtain ⟨sp, sn⟩ := s;simp only [List.append_nil] at h1 h2;rw [h1, h2]
   | cons i r =>
    right;have hi : 0 <= i := by
     simp only [atP] at h2;split at h2
     ·cases h2
     ·omega
    obtain ⟨j, rfl⟩ : ∃ j : Nat, i = (j : Int) := ⟨i.toNat, by omega⟩
    rw [RH] at h2;obtain ⟨z, hz, h3⟩ := Option.bind_eq_some_iff.1 h2;exact ⟨j, r, z, hz, by rw [h1, Nat.zero_add], h3⟩
def stA : Ag := ⟨true, false, [42], ⟨[], []⟩, []⟩

set_option linter.unusedSimpArgs false
set_option linter.unusedVariables false
set_option linter.unusedSectionVars false
set_option maxRecDepth 20000
def OR {A B : Type} (R : A -> B -> Prop) : Option A -> Option B -> Prop
 | none, none => True
 | some a, some b => R a b
 | _, _ => False
theorem Ok {σ τ ρ ψ : Type} {b : (σ -> Option ρ) -> σ -> Option ρ} {c : (τ -> Option ψ) -> τ -> Option ψ} (I : σ -> τ -> Prop) (R : ρ -> ψ -> Prop)
  (step : ∀ x y, I x y -> ∀ rec rec', (∀ x' y', I x' y' -> OR R (rec x') (rec' y')) -> OR R (b rec x) (c rec' y)) : ∀ (n : Nat) (x : σ) (y : τ), I x y -> OR R (iter b n x) (iter c n y)
 | 0, _, _, _ => trivial
 | n + 1, x, y, h => step x y h _ _ fun x' y' h' => Ok I R step n x' y' h'
theorem OR.bind {A B C D : Type} {R : A -> B -> Prop} {S : C -> D -> Prop} {o : Option A} {o' : Option B} {k : A -> Option C} {k' : B -> Option D} (h : OR R o o') (hk : ∀ a b, R a b -> OR S (k a) (k' b)) : OR S (o.bind k) (o'.bind k') := by
 cases o <;> cases o' <;> first | exact h.elim | trivial | exact hk _ _ h
def SR {A B : Type} (R : A -> B -> Prop) : Rd ⊕ A -> Rd ⊕ B -> Prop
 | .inl _, .inl _ => True
 | .inr a, .inr b => R a b
 | _, _ => False
abbrev EZ {A B : Type} (o : Option (Rd ⊕ A)) (o' : Option (Rd ⊕ B)) (R : A -> B -> Prop) : Prop := OR (SR R) o o'
theorem EZ.bind {A B A' B' : Type} {o : Option (Rd ⊕ A)} {o' : Option (Rd ⊕ B)} {R : A -> B -> Prop} {k : A -> Option (Rd ⊕ A')} {k' : B -> Option (Rd ⊕ B')} {S : A' -> B' -> Prop} {f f' : Rd -> Rd}
  (h : EZ o o' R) (hk : ∀ a b, R a b -> EZ (k a) (k' b) S) : EZ (o.bind fun x => pnc x (fun r => some (.inl (f r))) k) (o'.bind fun x => pnc x (fun r => some (.inl (f' r))) k') S :=
 OR.bind h fun a b hab => by
  cases a <;> cases b <;> first | exact hab.elim | trivial | exact hk _ _ hab
theorem EZ.ok {A B : Type} {a : A} {b : B} {R : A -> B -> Prop} (h : R a b) : EZ (some (.inr a)) (some (.inr b)) R := h
def Rz (Q Q' : List By8) (r r' : Rd) : Prop := ∃ n n' : Nat, n <= Q.length /\ n' <= Q'.length /\ Q.drop n = Q'.drop n' /\ r = ⟨Q, (n : Int)⟩ /\ r' = ⟨Q', (n' : Int)⟩
section
variable {Q Q' : List By8} (hQ : Q.length <= 8388608) (hQ' : Q'.length <= 8388608) {r r' : Rd}
theorem Hx {n n' : Nat} (h1 : n <= Q.length) (h2 : n' <= Q'.length) (h : Q.drop n = Q'.drop n') : Q.length - n = Q'.length - n' := by
 have := congrArg List.length h
 rwa [List.length_drop, List.length_drop] at this
theorem Xe (c : Int) (h : Rz Q Q' r r') : ∃ b, AX r c = some b /\ AX r' c = some b := by
 obtain ⟨n, n', h1, h2, h3, rfl, rfl⟩ := h;have hl := Hx h1 h2 h3
 cases hT : Q.drop n with
 | cons b B => exact ⟨_, Nq hT c, Nq (h3 ▸ hT) c⟩
 | nil =>
  have e := congrArg List.length hT;rw [List.length_drop, bj] at e;unfold AX;simp only [letJ];rw [bg (by omega), bg (by omega)];exact ⟨_, rfl, rfl⟩
include hQ hQ'
theorem MB (c : Int) (h : Rz Q Q' r r') : ∃ b s s', Av r c = some (b, s) /\ Av r' c = some (b, s') /\ Rz Q Q' s s' := by
 obtain ⟨n, n', h1, h2, h3, rfl, rfl⟩ := h;have hl := Hx h1 h2 h3
 cases hT : Q.drop n with
 | cons b B =>
  have hT' : Q'.drop n' = b :: B := h3 ▸ hT;rw [Kd hQ hT c, Kd hQ' hT' c];obtain ⟨k1, _, k2⟩ := Dw hT;obtain ⟨k3, _, k4⟩ := Dw hT';by_cases hc : (b.toNat : Int) = c
  ·rw [if_pos hc, if_pos hc]; exact ⟨_, _, _, rfl, rfl, n + 1, n' + 1, by omega, by omega, by rw [k2, k4], rfl, rfl⟩
  ·rw [if_neg hc, if_neg hc]; exact ⟨_, _, _, rfl, rfl, n, n', h1, h2, h3, rfl, rfl⟩
 | nil =>
  have e := congrArg List.length hT;rw [List.length_drop, bj] at e;obtain rfl : n = Q.length := by omega
  obtain rfl : n' = Q'.length := by omega
  rw [Oe, Oe];exact ⟨_, _, _, rfl, rfl, _, _, h1, h2, h3, rfl, rfl⟩
theorem Jm (c : Int) (h : Rz Q Q' r r') : EZ (Az r c) (Az r' c) (Rz Q Q') := by
 obtain ⟨b, e1, e2⟩ := Xe c h;obtain ⟨n, n', h1, h2, h3, rfl, rfl⟩ := h;have hl := Hx h1 h2 h3
 cases hT : Q.drop n with
 | cons b B =>
  have hT' : Q'.drop n' = b :: B := h3 ▸ hT;by_cases hc : (b.toNat : Int) = c
  ·rw [KA hQ hT c hc, KA hQ' hT' c hc];obtain ⟨k1, _, k2⟩ := Dw hT;obtain ⟨k3, _, k4⟩ := Dw hT';exact ⟨n + 1, n' + 1, by omega, by omega, by rw [k2, k4], rfl, rfl⟩
  ·obtain ⟨s, hs⟩ := QC hT c hc;obtain ⟨s', hs'⟩ := QC hT' c hc;rw [hs, hs']; trivial
 | nil =>
  have e := congrArg List.length hT;rw [List.length_drop, bj] at e;unfold Az AX;simp only [letJ];rw [bg (by omega), bg (by omega)];exact True.intro
theorem Xl (c : Int) (h : Rz Q Q' r r') : EZ (Bn r c) (Bn r' c) fun y y' => y'.1 = y.1 /\ Rz Q Q' y.2 y'.2 := by
 obtain ⟨n, n', h1, h2, h3, rfl, rfl⟩ := h;have hl := Hx h1 h2 h3;unfold Bn;simp only [letJ];rw [Er (by omega), Er (l := Q') (by omega), ba, ba];unfold L_IndexByte;rw [ba, ba, <- h3];have hb1 := Kt (Q.drop n) c.toNat.toUInt8;rw [List.length_drop] at hb1;generalize Lib.indexByte (Q.drop n) c.toNat.toUInt8 = i at hb1 ⊢;by_cases hx : i < 0
 ·rw [bf hx, bb, bb]; exact True.intro
 ·rw [bg hx, bc, bc, w64 (x := i + 1) (by omega) (by omega), w64 (by omega) (by omega), w64 (by omega) (by omega), w64 (by omega) (by omega), w64 (by omega) (by omega)];unfold slc;rw [if_pos (by omega), if_pos (by omega), ba, ba];refine EZ.ok ⟨?_, (n + (i + 1)).toNat, (n' + (i + 1)).toNat, by omega, by omega, ?_, by rw [Int.toNat_of_nonneg (by omega)], by rw [Int.toNat_of_nonneg (by omega)]⟩
  ·simp only;rw [Int.toNat_natCast, Int.toNat_natCast, <- h3];congr 1;omega
  ·rw [show (n + (i + 1)).toNat = n + (i + 1).toNat by omega, show (n' + (i + 1)).toNat = n' + (i + 1).toNat by omega, <- List.drop_drop, <- List.drop_drop, h3]
theorem UH (h : Rz Q Q' r r') : EZ (AI r) (AI r') fun y y' => y'.1 = y.1 /\ Rz Q Q' y.2 y'.2 := by
 obtain ⟨n, n', h1, h2, h3, rfl, rfl⟩ := h;unfold AI;simp only [letJ];refine OR.bind (R := fun s s' => ∃ k k' : Nat, n <= k /\ k <= Q.length /\ k' <= Q'.length /\ n' <= k' /\ k - n = k' - n' /\ Q.drop k = Q'.drop k' /\ s = (Q, (k : Int)) /\ s' = (Q', (k' : Int))) (Ok (fun s s' => ∃ k k' : Nat, n <= k /\ k <= Q.length /\ k' <= Q'.length /\ n' <= k' /\ k - n = k' - n' /\ Q.drop k = Q'.drop k' /\ s = (Q, (k : Int)) /\ s' = (Q', (k' : Int))) _ ?_ _ _ _ ⟨n, n', Nat.le_refl _, h1, h2, Nat.le_refl _, by omega, h3, rfl, rfl⟩) ?_
 ·rintro _ _ ⟨k, k', g1, g2, g3, g4, g5, g6, rfl, rfl⟩ rec rec' hrec;have hl := Hx g2 g3 g6;unfold A3;simp only [letJ];have stop : ∃ j j' : Nat, n <= j /\ j <= Q.length /\ j' <= Q'.length /\ n' <= j' /\ j - n = j' - n' /\ Q.drop j = Q'.drop j' /\ (Q, (k : Int)) = (Q, (j : Int)) /\ (Q', (k' : Int)) = (Q', (j' : Int)) := ⟨k, k', g1, g2, g3, g4, g5, g6, rfl, rfl⟩
  by_cases hk : k < Q.length
  ·have hne : Q.drop k ≠ [] := by intro h; have := congrArg List.length h; simp at this; omega
   obtain ⟨rn, w, hd, w1, w2⟩ := Ab1 (Q.drop k) hne;rw [List.length_drop] at w2;obtain ⟨b1, hb1⟩ := Jf (rn : Int);obtain ⟨b2, hb2⟩ := GJ (rn : Int);rw [bf (by omega), bf (by omega), bb, bb, Er (by omega), Er (l := Q') (by omega), ba, ba, <- g6, hd, ba, ba, hb1, hb2];simp only [ba];rw [w64 (by omega) (by omega), w64 (by omega) (by omega), show ((k' : Int) == (n' : Int)) = ((k : Int) == (n : Int)) by rw [Bool.eq_iff_iff, beq_iff_eq, beq_iff_eq]; omega];have go := hrec (Q, (k : Int) + (w : Int)) (Q', (k' : Int) + (w : Int)) ⟨k + w, k' + w, by omega, by omega, by omega, by omega, by omega, by rw [<- List.drop_drop, <- List.drop_drop, g6], by simp, by simp⟩;cases (((rn : Int) == (65533 : Int)) && (decide ((w : Int) < (3 : Int)))) <;> cases b1 <;> cases b2 <;> cases ((k : Int) == (n : Int)) <;> first | exact stop | exact go
  ·rw [bg (by omega), bg (by omega), bc, bc]; exact stop
 ·rintro _ _ ⟨k, k', g1, g2, g3, g4, g5, g6, rfl, rfl⟩;simp only;rw [show ((k' : Int) == (n' : Int)) = ((k : Int) == (n : Int)) by rw [Bool.eq_iff_iff, beq_iff_eq, beq_iff_eq]; omega]
  cases ((k : Int) == (n : Int)) with
  | true => rw [bb, bb]; exact True.intro
  | false =>
   rw [bc, bc];have hs : slc Q (n : Int) (k : Int) = some ((Q.drop n).take (k - n)) := by unfold slc; rw [if_pos (by omega)]; simp
   have hs' : slc Q' (n' : Int) (k' : Int) = some ((Q.drop n).take (k - n)) := by unfold slc; rw [if_pos (by omega), h3, g5]; simp
   rw [hs, hs', ba, ba];obtain ⟨b, s, s', m1, m2, m3⟩ := MB hQ hQ' 123 ⟨k, k', g2, g3, g6, rfl, rfl⟩;rw [m1, m2, ba, ba]
   cases b with
   | false =>
    obtain ⟨j, j', hj⟩ := m3;obtain ⟨j1, j2, j3, rfl, rfl⟩ := hj;exact EZ.ok ⟨rfl, j, j', j1, j2, j3, rfl, rfl⟩
   | true =>
    refine EZ.bind (f := fun r => r) (f' := fun r => r) (Xl hQ hQ' 125 m3) fun y y' ⟨y1, y2⟩ => ?_;rw [y1]
    cases (y.1 == ([] : List By8)) with
    | true => rw [bb, bb]; exact True.intro
    | false =>
     obtain ⟨j, j', j1, j2, j3, e1, e2⟩ := y2;rw [bc, bc, e1, e2];exact EZ.ok ⟨rfl, j, j', j1, j2, j3, rfl, rfl⟩
theorem NA (p : Int) (z : Bool) (h : Rz Q Q' r r') (hp : 0 <= p /\ p <= 100) : EZ (AN r p z) (AN r' p z) fun y y' => y'.1 = y.1 /\ Rz Q Q' y.2 y'.2 := by
 obtain ⟨n, n', h1, h2, h3, rfl, rfl⟩ := h;unfold AN;simp only [letJ];refine OR.bind (R := fun s s' => ∃ (k k' : Nat) (v : Int), n <= k /\ k <= Q.length /\ k' <= Q'.length /\ n' <= k' /\ k - n = k' - n' /\ Q.drop k = Q'.drop k' /\ s = (Q, (k : Int), v) /\ s' = (Q', (k' : Int), v)) (Ok (fun s s' => ∃ (k k' : Nat) (v : Int), n <= k /\ k <= Q.length /\ k' <= Q'.length /\ n' <= k' /\ k - n = k' - n' /\ Q.drop k = Q'.drop k' /\ s = (Q, (k : Int), v) /\ s' = (Q', (k' : Int), v)) _ ?_ _ _ _ ⟨n, n', 0, Nat.le_refl _, h1, h2, Nat.le_refl _, by omega, h3, rfl, rfl⟩) ?_
 ·rintro _ _ ⟨k, k', v, g1, g2, g3, g4, g5, g6, rfl, rfl⟩ rec rec' hrec;have hl := Hx g2 g3 g6;unfold A0;simp only [letJ];have stop : ∃ (j j' : Nat) (u : Int), n <= j /\ j <= Q.length /\ j' <= Q'.length /\ n' <= j' /\ j - n = j' - n' /\ Q.drop j = Q'.drop j' /\ (Q, (k : Int), v) = (Q, (j : Int), u) /\ (Q', (k' : Int), v) = (Q', (j' : Int), u) := ⟨k, k', v, g1, g2, g3, g4, g5, g6, rfl, rfl⟩
  cases hT : Q.drop k with
  | cons b B =>
   have hT' : Q'.drop k' = b :: B := g6 ▸ hT;obtain ⟨k1, e1, k2⟩ := Dw hT;obtain ⟨k3, e3, k4⟩ := Dw hT';rw [bf (show (k : Int) < (Q.length : Int) by omega), bf (show (k' : Int) < (Q'.length : Int) by omega), bb, bb, AE k1, AE k3, e1, e3];simp only [ba]
   rw [w64 (x := (k : Int) + 1) (by omega) (by omega), w64 (x := (k' : Int) + 1) (by omega) (by omega), w64 (x := (n : Int) + p) (by omega) (by omega), w64 (x := (n' : Int) + p) (by omega) (by omega), show ((k' : Int) == (n' : Int)) = ((k : Int) == (n : Int)) by rw [Bool.eq_iff_iff, beq_iff_eq, beq_iff_eq]; omega,
    show decide ((k' : Int) < (n' : Int) + p) = decide ((k : Int) < (n : Int) + p) by rw [decide_eq_decide]; omega]
   have go := fun v => hrec (Q, (k : Int) + 1, v) (Q', (k' : Int) + 1, v) ⟨k + 1, k' + 1, v, by omega, by omega, by omega, by omega, by omega, by rw [k2, k4], by simp, by simp⟩;cases decide ((k : Int) < (n : Int) + p) <;> cases decide ((48 : Int) <= (b.toNat : Int)) <;> cases decide ((b.toNat : Int) <= 57) <;> cases ((k : Int) == (n : Int)) <;> cases ((b.toNat : Int) == (48 : Int)) <;> cases z <;> first | exact stop | exact go _
  | nil =>
   have e := congrArg List.length hT;rw [List.length_drop, bj] at e;rw [bg (show ¬ (k : Int) < (Q.length : Int) by omega), bg (show ¬ (k' : Int) < (Q'.length : Int) by omega)];exact stop
 ·rintro _ _ ⟨k, k', v, g1, g2, g3, g4, g5, g6, rfl, rfl⟩;simp only;rw [show ((k' : Int) == (n' : Int)) = ((k : Int) == (n : Int)) by rw [Bool.eq_iff_iff, beq_iff_eq, beq_iff_eq]; omega]
  cases ((k : Int) == (n : Int)) with
  | true => rw [bb, bb]; exact True.intro
  | false => exact EZ.ok ⟨rfl, k, k', g2, g3, g6, rfl, rfl⟩
theorem SZ (h : Rz Q Q' r r') : EZ (Bh r) (Bh r') fun y y' => y'.1 = y.1 /\ Rz Q Q' y.2 y'.2 := by
 obtain ⟨b, s, s', m1, m2, m3⟩ := MB hQ hQ' 45 h;unfold Bh;rw [m1, m2, ba, ba]
 cases b with
 | true => exact EZ.bind (f := fun r => r) (f' := fun r => r) (NA hQ hQ' 7 true m3 (by omega)) fun y y' ⟨y1, y2⟩ => by rw [y1]; exact EZ.ok ⟨rfl, y2⟩
 | false => exact EZ.bind (f := fun r => r) (f' := fun r => r) (NA hQ hQ' 7 true m3 (by omega)) fun y y' ⟨y1, y2⟩ => by rw [y1]; exact EZ.ok ⟨rfl, y2⟩
theorem Ach (h : Rz Q Q' r r') : EZ (A1 r) (A1 r') fun y y' => y'.1 = y.1 /\ Rz Q Q' y.2 y'.2 := by
 unfold A1;simp only [letJ];obtain ⟨b, s, s', m1, m2, m3⟩ := MB hQ hQ' 64 h;rw [m1, m2, ba, ba]
 cases b with
 | false =>
  refine EZ.bind (f := fun r => r) (f' := fun r => r) (NA hQ hQ' 6 false m3 (by omega)) fun y y' ⟨y1, y2⟩ => ?_;rw [y1];exact EZ.bind (f := fun r => r) (f' := fun r => r) (Jm hQ hQ' 93 y2) fun z z' hz => EZ.ok ⟨rfl, hz⟩
 | true =>
  refine EZ.bind (f := fun r => r) (f' := fun r => r) (UH hQ hQ' m3) fun y y' ⟨y1, y2⟩ => ?_;rw [y1];obtain ⟨b, s, s', m1, m2, m3⟩ := MB hQ hQ' 61 y2;rw [m1, m2, ba, ba]
  cases b with
  | true =>
   refine EZ.bind (f := fun r => r) (f' := fun r => r) (Jm hQ hQ' 39 m3) fun z z' hz => ?_;refine EZ.bind (f := fun r => r) (f' := fun r => r) (Xl hQ hQ' 39 hz) fun w w' ⟨w1, w2⟩ => ?_;rw [w1];exact EZ.bind (f := fun r => r) (f' := fun r => r) (Jm hQ hQ' 93 (r := ⟨w.2.q, w.2.at_⟩) (r' := ⟨w'.2.q, w'.2.at_⟩) w2) fun z z' hz => EZ.ok ⟨rfl, hz⟩
  | false =>
   simp only [bc];obtain ⟨b, s, s', m1, m2, m3⟩ := MB hQ hQ' 126 m3;rw [m1, m2, ba, ba]
   cases b with
   | true =>
    refine EZ.bind (f := fun r => r) (f' := fun r => r) (SZ hQ hQ' m3) fun z z' ⟨z1, z2⟩ => ?_;rw [z1];refine EZ.bind (f := fun r => r) (f' := fun r => r) (Jm hQ hQ' 44 z2) fun w w' hw => ?_;refine EZ.bind (f := fun r => r) (f' := fun r => r) (SZ hQ hQ' hw) fun v v' ⟨v1, v2⟩ => ?_;rw [v1];exact EZ.bind (f := fun r => r) (f' := fun r => r) (Jm hQ hQ' 93 (r := ⟨v.2.q, v.2.at_⟩) (r' := ⟨v'.2.q, v'.2.at_⟩) v2) fun z z' hz => EZ.ok ⟨rfl, hz⟩
   | false =>
    exact EZ.bind (f := fun r => r) (f' := fun r => r) (Jm hQ hQ' 93 (r := ⟨s.q, s.at_⟩) (r' := ⟨s'.q, s'.at_⟩) m3) fun z z' hz => EZ.ok ⟨rfl, hz⟩
end

set_option linter.unusedSimpArgs false
set_option linter.unusedVariables false
set_option linter.unusedSectionVars false
set_option maxRecDepth 20000
theorem OR.letJ {V V' A B : Type} {J : V -> Option A} {J' : V' -> Option B} {k : (V -> Option A) -> Option A} {k' : (V' -> Option B) -> Option B} {S : A -> B -> Prop} (P : V -> V' -> Prop)
  (hJ : ∀ v v', P v v' -> OR S (J v) (J' v')) (hk : ∀ J J', (∀ v v', P v v' -> OR S (J v) (J' v')) -> OR S (k J) (k' J')) : OR S (letJ J k) (letJ J' k') := hk J J' hJ
def K9 (dp : Bool) (s : Rd) : Option (Rd ⊕ (Ag × Rd)) :=
 letJ (fun v : (List By8) × (List By8) × (List By8) × (List By8) × Int => match v with
  | (a22, a23, a24, a25, a26) => some (.inr ((⟨dp, true, a22, (⟨a23, a24⟩ : Aa), ([] : List Ad)⟩ : Ag), (⟨a25, a26⟩ : Af)))) fun J27 =>
 (Av (⟨s.q, s.at_⟩ : Af) (42 : Int)).bind fun x28 =>
 cond x28.1 (J27 (([42] : List By8), ([] : List By8), ([] : List By8), x28.2.q, x28.2.at_))
  ((AI x28.2).bind fun x => pnc x (fun x31 => some (.inl x31)) fun x30 => J27 (([] : List By8), x30.1.URI, x30.1.Local, x30.2.q, x30.2.at_))
def Es (dp : Bool) (s : Rd) : Option (Rd ⊕ (Ag × Rd)) :=
 letJ (fun v : (List By8) × Int × (List By8) × (List By8) × (List By8) => match v with
  | (a51, a52, a53, a54, a55) =>
  letJ (fun v : Bool × Bool × (List By8) × (List By8) × (List By8) × (List Ad) × (List By8) × Int => match v with
  | (a109, a110, a111, a112, a113, a114, a116, a117) =>
  some (.inr ((⟨a109, a110, a111, (⟨a112, a113⟩ : Aa), a114⟩ : Ag), (⟨a116, a117⟩ : Af)))) fun J118 =>
  (iter (AO) FUEL (a51, a52, dp, false, a53, a54, a55, ([] : List Ad))).bind fun o =>
  match o with
  | .inl o1 => J118 o1
  | .inr o1 => some o1) fun J56 =>
  (Av (⟨s.q, s.at_⟩ : Af) (42 : Int)).bind fun x57 =>
 cond x57.1
  (J56 (x57.2.q, x57.2.at_, ([42] : List By8), ([] : List By8), ([] : List By8)))
  ((AI x57.2).bind fun x => pnc x (fun x60 =>
  some (.inl x60)) fun x59 =>
  (letJ (fun v64 : Bool => cond (v64 && (((x59.1.Local == ([116, 101, 120, 116] : List By8)) || (x59.1.Local == ([99, 111, 109, 109, 101, 110, 116] : List By8))) || (x59.1.Local == ([110, 111, 100, 101] : List By8))))
   ((Az x59.2 (40 : Int)).bind fun x => pnc x (fun x73 =>
    some (.inl x73)) fun x72 =>
    (Az x72 (41 : Int)).bind fun x => pnc x (fun x75 =>
    some (.inl x75)) fun x74 =>
   J56 (x74.q, x74.at_, x59.1.Local, x59.1.URI, x59.1.Local))
   (J56 (x59.2.q, x59.2.at_, ([] : List By8), x59.1.URI, x59.1.Local))) fun J63 => cond ((x59.1.URI == (⟨([] : List By8), x59.1.Local⟩ : Aa).URI) && ((x59.1.Local == (⟨([] : List By8), x59.1.Local⟩ : Aa).Local) && true)) ((AX x59.2 (40 : Int)).bind fun x65 =>
   J63 x65) (J63 false)))
theorem Hg (p0 : Rd) : Ay p0 = (Az p0 (47 : Int)).bind fun x => pnc x (fun x5 => some (.inl x5)) fun x4 =>
  (Av x4 (47 : Int)).bind fun x6 => cond (!x6.1) ((Av x6.2 (64 : Int)).bind fun x16 => cond x16.1 (K9 x6.1 x16.2) (Es x6.1 x16.2)) (Es x6.1 x6.2) := rfl
section
variable {Q Q' : List By8} (hQ : Q.length <= 8388608) (hQ' : Q'.length <= 8388608) {r r' : Rd}
abbrev LSt := Bool × Bool × List By8 × List By8 × List By8 × List Ad × List By8 × Int
def LRz (Q Q' : List By8) (dp dp' a : Bool) (t u l : List By8) : LSt ⊕ (Rd ⊕ (Ag × Rd)) -> LSt ⊕ (Rd ⊕ (Ag × Rd)) -> Prop
 | .inl g, .inl g' => ∃ (cs : List Ad) (s s' : Rd), g = (dp, a, t, u, l, cs, s.q, s.at_) /\ g' = (dp', a, t, u, l, cs, s'.q, s'.at_) /\ Rz Q Q' s s'
 | .inr (.inl _), .inr (.inl _) => True
 | _, _ => False
include hQ hQ'
theorem Ts (dp dp' a : Bool) (t u l : List By8) (h : Rz Q Q' r r') : OR (LRz Q Q' dp dp' a t u l) (iter AO FUEL (r.q, r.at_, dp, a, t, u, l, ([] : List Ad))) (iter AO FUEL (r'.q, r'.at_, dp', a, t, u, l, ([] : List Ad))) := by
 refine Ok (fun x y => ∃ (cs : List Ad) (s s' : Rd), x = (s.q, s.at_, dp, a, t, u, l, cs) /\ y = (s'.q, s'.at_, dp', a, t, u, l, cs) /\ Rz Q Q' s s') _ ?_ _ _ _ ⟨[], r, r', rfl, rfl, h⟩;rintro _ _ ⟨cs, s, s', rfl, rfl, n, n', h1, h2, h3, rfl, rfl⟩ rec rec' hrec;unfold AO;dsimp only;obtain ⟨b, s, s', m1, m2, m3⟩ := MB hQ hQ' 91 ⟨n, n', h1, h2, h3, rfl, rfl⟩;rw [m1, m2, ba, ba]
 cases b with
 | false => exact ⟨cs, s, s', rfl, rfl, m3⟩
 | true =>
  simp only [bb];refine OR.bind (Ach hQ hQ' m3) fun x y hxy => ?_;cases x <;> cases y <;> first | exact hxy.elim | exact True.intro | skip
  rename_i x y;obtain ⟨y1, y2⟩ := hxy;show OR _ ((app 80 cs [x.1]).bind fun _ => rec (x.2.q, x.2.at_, dp, a, t, u, l, (cs ++ [x.1]))) ((app 80 cs [y.1]).bind fun _ => rec' (y.2.q, y.2.at_, dp', a, t, u, l, (cs ++ [y.1])));rw [y1]
  cases app 80 cs [x.1] with
  | none => exact True.intro
  | some _ => exact hrec _ _ ⟨_, _, _, rfl, rfl, y2⟩
def Sz (Q Q' : List By8) (dp dp' : Bool) (y y' : Ag × Rd) : Prop := y.1.attr = false /\ y.1.deep = dp /\ y'.1 = { y.1 with deep := dp' } /\ Rz Q Q' y.2 y'.2
theorem Xz (dp dp' : Bool) (h : Rz Q Q' r r') : EZ (Es dp r) (Es dp' r') (Sz Q Q' dp dp') := by
 unfold Es;refine OR.letJ (fun v v' => v'.2.2 = v.2.2 /\ Rz Q Q' ⟨v.1, v.2.1⟩ ⟨v'.1, v'.2.1⟩) ?_ fun J J' hJ => ?_
 ·rintro ⟨s, z, t, u, l⟩ ⟨s', z', t', u', l'⟩ ⟨h1, hr⟩;simp only at h1 hr;cases h1;simp only [letJ];refine OR.bind (Ts hQ hQ' dp dp' false t u l hr) fun x y hxy => ?_;rcases x with x | x | x <;> rcases y with y | y | y <;> first | exact hxy.elim | exact True.intro | skip
  obtain ⟨cs, s, s', rfl, rfl, hz⟩ := hxy;exact ⟨rfl, rfl, rfl, hz⟩
 ·obtain ⟨b, s, s', m1, m2, m3⟩ := MB hQ hQ' 42 h;rw [m1, m2, ba, ba]
  cases b with
  | true => exact hJ _ _ ⟨rfl, m3⟩
  | false =>
   refine EZ.bind (f := fun r => r) (f' := fun r => r) (UH hQ hQ' m3) fun y y' ⟨y1, hy⟩ => ?_;rw [y1];refine OR.letJ (fun v v' => v' = v) (fun v v' hv => ?_) fun J2 J2' hJ2 => ?_
   ·subst hv
    cases (v' && (((y.1.Local == ([116, 101, 120, 116] : List By8)) || (y.1.Local == ([99, 111, 109, 109, 101, 110, 116] : List By8))) || (y.1.Local == ([110, 111, 100, 101] : List By8)))) with
    | true =>
     refine EZ.bind (f := fun r => r) (f' := fun r => r) (Jm hQ hQ' 40 hy) fun w w' hw => ?_;exact EZ.bind (f := fun r => r) (f' := fun r => r) (Jm hQ hQ' 41 hw) fun v v' hv => hJ _ _ ⟨rfl, hv⟩
    | false => exact hJ _ _ ⟨rfl, hy⟩
   ·obtain ⟨b, hb, hb'⟩ := Xe 40 hy
    cases ((y.1.URI == (⟨([] : List By8), y.1.Local⟩ : Aa).URI) && ((y.1.Local == (⟨([] : List By8), y.1.Local⟩ : Aa).Local) && true)) with
    | true => rw [bb, bb, hb, hb', ba, ba]; exact hJ2 _ _ rfl
    | false => exact hJ2 _ _ rfl
theorem Abz (dp : Bool) (h : Rz Q Q' r r') : EZ (K9 dp r) (K9 dp r') fun y y' => y'.1 = y.1 /\ Rz Q Q' y.2 y'.2 := by
 unfold K9;refine OR.letJ (fun v v' => v'.1 = v.1 /\ v'.2.1 = v.2.1 /\ v'.2.2.1 = v.2.2.1 /\ Rz Q Q' ⟨v.2.2.2.1, v.2.2.2.2⟩ ⟨v'.2.2.2.1, v'.2.2.2.2⟩) ?_ fun J J' hJ => ?_
 ·rintro ⟨a, b, c, s, z⟩ ⟨a', b', c', s', z'⟩ ⟨h1, h2, h3, hr⟩;simp only at h1 h2 h3 hr;subst h1 h2 h3;exact EZ.ok ⟨rfl, hr⟩
 ·obtain ⟨b, s, s', m1, m2, m3⟩ := MB hQ hQ' 42 h;rw [m1, m2, ba, ba]
  cases b with
  | true => exact hJ _ _ ⟨rfl, rfl, rfl, m3⟩
  | false => exact EZ.bind (f := fun r => r) (f' := fun r => r) (UH hQ hQ' m3) fun y y' ⟨y1, y2⟩ => hJ _ _ ⟨rfl, by rw [y1], by rw [y1], y2⟩
theorem XF (h : Rz Q Q' r r') : EZ (Ay r) (Ay r') fun y y' => y'.1 = y.1 /\ Rz Q Q' y.2 y'.2 := by
 have hm : ∀ {dp : Bool} {s s' : Rd}, Rz Q Q' s s' -> EZ (Es dp s) (Es dp s') fun y y' => y'.1 = y.1 /\ Rz Q Q' y.2 y'.2 := fun {dp s s'} hs => by
  have := Xz hQ hQ' dp dp hs;revert this;cases Es dp s <;> cases Es dp s' <;> first | exact id | skip
  rename_i x y;cases x <;> cases y <;> first | exact id | skip
  rintro ⟨_, h1, h2, h3⟩;exact ⟨by rw [h2, <- h1], h3⟩
 rw [Hg, Hg];refine EZ.bind (f := fun r => r) (f' := fun r => r) (Jm hQ hQ' 47 h) fun x x' hx => ?_;obtain ⟨b6, s6, s6', m1, m2, m3⟩ := MB hQ hQ' 47 hx;rw [m1, m2, ba, ba]
 cases b6 with
 | true => exact hm m3
 | false =>
  simp only [Bool.not_false, bb];obtain ⟨b, s, s', m1, m2, m3⟩ := MB hQ hQ' 64 m3;rw [m1, m2, ba, ba]
  cases b with
  | true => exact Abz hQ hQ' false m3
  | false => exact hm m3
end
theorem Vr {Q : List By8} (hQ : Q.length <= 8388608) (dp : Bool) {k : Nat} (hk : k <= Q.length) (h : Q.drop k = [] \/ ∃ b B, Q.drop k = b :: B /\ (b = 47 \/ b = 64)) : ∃ r, Es dp ⟨Q, (k : Int)⟩ = some (.inl r) := by
 have hm : Av ⟨Q, (k : Int)⟩ 42 = some (false, ⟨Q, (k : Int)⟩) := by
  rcases h with h | ⟨b, B, h, hb⟩
  ·have e := congrArg List.length h;rw [List.length_drop, bj] at e;obtain rfl : k = Q.length := by omega
   exact Oe Q 42
  ·rw [Kd hQ h, if_neg (by rcases hb with rfl | rfl <;> decide)]
 have hn : ∃ r, AI ⟨Q, (k : Int)⟩ = some (.inl r) := by
  have e : iter (A3 ⟨Q, (k : Int)⟩) FUEL (Q, (k : Int)) = some (Q, (k : Int)) := by
   obtain ⟨f, hf⟩ : ∃ f, FUEL = f + 1 := ⟨FUEL - 1, by unfold FUEL; rfl⟩
   rw [hf, BH];generalize iter (A3 ⟨Q, (k : Int)⟩) f = rec;unfold A3;simp only [letJ];rcases h with h | ⟨b, B, h, hb⟩
   ·have e := congrArg List.length h;rw [List.length_drop, bj] at e;rw [bg (by omega), bc]
   ·obtain ⟨k1, _, _⟩ := Dw h;rw [bf (by omega), bb, Er (by omega), ba, h];rcases hb with rfl | rfl <;> rw [Lc _ _ (by decide), ba] <;> rfl
  unfold AI;simp only [letJ];rw [e, ba];simp only [beq_self_eq_true, bb];exact ⟨_, rfl⟩
 obtain ⟨r, hr⟩ := hn;unfold Es;simp only [letJ];rw [hm, ba];simp only [bc];rw [hr];exact ⟨r, rfl⟩

set_option linter.unusedSimpArgs false
set_option linter.unusedVariables false
set_option linter.unusedSectionVars false
set_option maxRecDepth 20000
def RRz (A A' : List Ag) : RdR -> RdR -> Prop
 | .inl l, .inl l' => ∃ m, l = A ++ m /\ l' = A' ++ m
 | .inr (.inl _), .inr (.inl _) => True
 | _, _ => False
theorem TT {α : Type} {A : List α} (h : A ≠ []) (m : List α) : (A ++ m).isEmpty = false := by cases A with
 | nil => exact absurd rfl h
 | cons a r => rfl
theorem Wj {A A' : List Ag} (h : Ic A = Ic A') : ∀ m, Ic (A ++ m) = Ic (A' ++ m)
 | [] => by simpa using h
 | x :: m => by
  have : ∀ B : List Ag, (B ++ x :: m).getLast? = some ((x :: m).getLast (by simp)) := fun B => by
   rw [List.getLast?_append, List.getLast?_eq_some_getLast (by simp : x :: m ≠ [])]; rfl
  unfold Ic;rw [this, this]
section
variable {Q Q' : List By8} (hQ : Q.length <= 8388608) (hQ' : Q'.length <= 1048576) {A A' : List Ag} (hA : A ≠ []) (hA' : A' ≠ []) (hl : Ic A = Ic A') (hs : A.length + Q'.length <= 1048577) (hs' : A'.length + Q'.length <= 1048577)
include hQ hQ' hA hA' hl hs hs'
theorem UB : ∀ (f g : Nat) (m : List Ag) (n n' : Nat) (o' : RdR), n <= Q.length -> n' <= Q'.length -> Q.drop n = Q'.drop n' -> iter (AH Q') g (A' ++ m, Q', (n' : Int)) = some o' -> Q'.length + 1 <= f + n' -> m.length <= n' ->
  ∃ o, iter (AH Q) f (A ++ m, Q, (n : Int)) = some o /\ RRz A A' o o'
 | 0, _, _, _, _, _, _, _, _, _, _, _ => by omega
 | _ + 1, 0, _, _, _, _, _, _, _, ho, _, _ => by cases ho
 | f + 1, g + 1, m, n, n', o', h1, h2, h3, ho, hf, hm => by
  have ih := UB f g;have hll := Hx h1 h2 h3;rw [BH] at ho;rw [BH];rw [Gc _ _ _ _ _ (by rw [bk]; omega), TT hA', Bool.false_or] at ho;rw [Gc _ _ _ _ _ (by rw [bk]; omega), TT hA, Bool.false_or, Wj hl m, show decide ((n : Int) < (Q.length : Int)) = decide ((n' : Int) < (Q'.length : Int)) by rw [decide_eq_decide]; omega];revert ho
  cases decide ((n' : Int) < (Q'.length : Int)) with
  | false => intro ho; cases ho; exact ⟨_, rfl, m, rfl, rfl⟩
  | true =>
   cases Ic (A' ++ m) with
   | true => intro ho; cases ho; exact ⟨_, rfl, True.intro⟩
   | false =>
    simp only [bb, bc];obtain ⟨v, hv, hp⟩ := QN hQ' (lo := (n' : Int)) (by omega) (r := ⟨Q', (n' : Int)⟩) ⟨rfl, Int.le_refl _, by simp only; omega⟩;have hz := XF hQ (by omega) (r := ⟨Q, (n : Int)⟩) (r' := ⟨Q', (n' : Int)⟩) ⟨n, n', h1, h2, h3, rfl, rfl⟩;rw [hv] at hz;rw [hv, ba]
    cases hw : Ay ⟨Q, (n : Int)⟩ with
    | none => rw [hw] at hz; exact hz.elim
    | some w =>
     rw [hw] at hz;rw [ba]
     cases v with
     | inl v =>
      cases w with
      | inl w => intro ho; cases ho; exact ⟨_, rfl, True.intro⟩
      | inr w => exact hz.elim
     | inr v =>
      cases w with
      | inl w => exact hz.elim
      | inr w =>
       obtain ⟨z1, k, k', k1, k2, k3, e1, e2⟩ := hz;have hlo := hp.1.lo;rw [e2] at hlo;simp only at hlo;intro ho;have ho' : iter (AH Q') g ((A' ++ m) ++ [v.1], v.2.q, v.2.at_) = some o' := ho;rw [e2, List.append_assoc] at ho';show ∃ o, iter (AH Q) f ((A ++ m) ++ [w.1], w.2.q, w.2.at_) = some o /\ _;rw [e1, List.append_assoc, <- z1];exact ih (m ++ [v.1]) k k' o' k1 k2 k3 ho' (by omega) (by rw [bk, List.length_singleton]; omega)
end
def rdL : RdR -> Option (List Ag × Int × Int)
 | .inl l => some (if 20 < l.length then ([], 0, 5) else (l, 0, 0))
 | .inr (.inl z) => some ([], z, 36)
 | .inr (.inr y) => some y
theorem NT {q : List By8} {o : RdR} (h : iter (AH q) FUEL (([] : List Ag), q, (0 : Int)) = some o) : C3 q = rdL o := by
 unfold C3 EY;simp only [letJ];have h' : iter (AH q) FUEL (([] : List Ag), (⟨q, (0 : Int)⟩ : Af).q, (⟨q, (0 : Int)⟩ : Af).at_) = some o := h;rw [h', ba];rcases o with l | (z | y)
 ·simp only;by_cases h20 : 20 < l.length
  ·rw [bf (by omega), show rdL (.inl l) = some (if 20 < l.length then ([], 0, 5) else (l, 0, 0)) from rfl, if_pos h20]; rfl
  ·rw [bg (by omega), show rdL (.inl l) = some (if 20 < l.length then ([], 0, 5) else (l, 0, 0)) from rfl, if_neg h20]; rfl
 ·rfl
 ·rfl
theorem Afm {Q : List By8} (g : Nat) (st : Ag) {k : Nat} (hk : k <= Q.length) (h47 : 47 ∉ Q.drop k) {S : List Ag} (h : iter (AH Q) g ([st], Q, (k : Int)) = some (.inl S)) : S = [st] := by
 cases g with
 | zero => cases h
 | succ g =>
  rw [BH, Gc _ _ _ _ _ (by simp)] at h
  cases hT : Q.drop k with
  | nil =>
   have e := congrArg List.length hT;rw [List.length_drop, bj] at e;rw [bg (by omega)] at h;cases h; rfl
  | cons b B =>
   obtain ⟨k1, _, _⟩ := Dw hT;rw [bf (by omega)] at h
   have hb : (b.toNat : Int) ≠ 47 := fun e => h47 (by
    rw [hT];have : b = 47 := by
     apply UInt8.toNat_inj.1;show b.toNat = 47;omega
    rw [this]; exact List.mem_cons_self)
   obtain ⟨r, hr⟩ := QC hT 47 hb;rw [Hg, hr] at h;revert h;cases Ic [st] <;> intro h <;> cases h
section
variable (t : List By8) (ht : t.length + 1 <= 1048576)
include ht
theorem Tp : ∃ o o', iter (AH (47 :: 47 :: t)) FUEL (([] : List Ag), 47 :: 47 :: t, (0 : Int)) = some o /\ iter (AH (47 :: t)) FUEL (([] : List Ag), 47 :: t, (0 : Int)) = some o' /\
  ((∃ z, o = .inr (.inl z)) \/ ∃ (st : Ag) (m : List Ag), st.attr = false /\ st.deep = false /\ o = .inl ({ st with deep := true } :: m) /\ o' = .inl (st :: m) /\ (47 ∉ t -> m = [])) := by
 obtain ⟨o', e', ho'⟩ := Ps (47 :: t) (by simp only [bi]; omega);obtain ⟨f, hf⟩ : ∃ f, FUEL = f + 1 := ⟨FUEL - 1, by unfold FUEL; rfl⟩
 have hFl : 2097152 < f := by unfold FUEL at hf; omega
 generalize hQe : (47 :: 47 :: t : List By8) = Q;generalize hQe' : (47 :: t : List By8) = Q' at e' ho';have hQl : Q.length = t.length + 2 := by rw [<- hQe]; rfl
 have hQl' : Q'.length = t.length + 1 := by rw [<- hQe']; rfl
 have d0 : Q.drop 0 = 47 :: (47 :: t) := by rw [<- hQe]; rfl
 have d1 : Q.drop 1 = 47 :: t := by rw [<- hQe]; rfl
 have d2 : Q.drop 2 = t := by rw [<- hQe]; rfl
 have c0 : Q'.drop 0 = 47 :: t := by rw [<- hQe']; rfl
 have c1 : Q'.drop 1 = t := by rw [<- hQe']; rfl
 have hq : Q.length <= 8388608 := by omega
 have hq' : Q'.length <= 8388608 := by omega
 have s0 : Ay ⟨Q, ((0 : Nat) : Int)⟩ = Es true ⟨Q, ((2 : Nat) : Int)⟩ := by
  rw [Hg, KA hq d0 47 (by decide), ba];show ((Av ⟨Q, ((0 + 1 : Nat) : Int)⟩ 47).bind _) = _;rw [Kd hq d1, ba, if_pos (by decide)];rfl
 have body : ∀ (q : List By8) rec, AH q rec (([] : List Ag), q, (0 : Int)) = (Ay ⟨q, ((0 : Nat) : Int)⟩).bind fun x => pnc x (fun r => some (.inr (.inl r.at_))) fun y => rec ([] ++ [y.1], y.2.q, y.2.at_) := fun q rec => by
  rw [Gc _ _ _ _ _ (by simp)]; rfl
 by_cases hb : t = [] \/ ∃ b B, t = b :: B /\ (b = 47 \/ b = 64)
 ·obtain ⟨r, hr⟩ := Vr hq true (k := 2) (by omega) (by rw [d2]; exact hb);refine ⟨.inr (.inl r.at_), o', ?_, e', .inl ⟨_, rfl⟩⟩;rw [hf, BH, body, s0, hr]; rfl
 ·have hcons : ∃ b B, t = b :: B /\ b ≠ 47 /\ b ≠ 64 := by
   cases t with
   | nil => exact absurd (.inl rfl) hb
   | cons b B => exact ⟨b, B, rfl, fun h => hb (.inr ⟨b, B, rfl, .inl h⟩), fun h => hb (.inr ⟨b, B, rfl, .inr h⟩)⟩
  obtain ⟨b, B, et, b47, b64⟩ := hcons
  have n8 : ∀ (m : Nat), m < 256 -> b ≠ UInt8.ofNat m -> ¬ (b.toNat : Int) = (m : Int) := fun m hm hb he => hb (by
   apply UInt8.toNat_inj.1;rw [UInt8.toNat_ofNat']
   omega)
  have s0' : Ay ⟨Q', ((0 : Nat) : Int)⟩ = Es false ⟨Q', ((1 : Nat) : Int)⟩ := by
   rw [Hg, KA hq' c0 47 (by decide), ba];show ((Av ⟨Q', ((0 + 1 : Nat) : Int)⟩ 47).bind _) = _;rw [Kd hq' (k := 0 + 1) (by rw [<- et]; exact c1), ba, if_neg (show ¬ (b.toNat : Int) = 47 from n8 47 (by decide) b47)];show ((Av ⟨Q', ((0 + 1 : Nat) : Int)⟩ 64).bind _) = _;rw [Kd hq' (k := 0 + 1) (by rw [<- et]; exact c1), ba, if_neg (show ¬ (b.toNat : Int) = 64 from n8 64 (by decide) b64)];rfl
  have hz := Xz hq hq' true false (r := ⟨Q, ((2 : Nat) : Int)⟩) (r' := ⟨Q', ((1 : Nat) : Int)⟩) ⟨2, 1, by omega, by omega, by rw [d2, c1], rfl, rfl⟩;obtain ⟨v, hv, hp⟩ := QN (q := Q') (by omega) (lo := ((0 : Nat) : Int)) (by omega) (r := ⟨Q', ((0 : Nat) : Int)⟩) ⟨rfl, Int.le_refl _, by simp only; omega⟩;rw [hf, BH, body, hv, ba] at e';rw [s0'] at hv;rw [hv, <- s0] at hz;rw [hf, BH, body, BH, body, s0', hv, ba]
  cases hw : Ay ⟨Q, ((0 : Nat) : Int)⟩ with
  | none => rw [hw] at hz; exact hz.elim
  | some w =>
   rw [hw] at hz;rw [ba]
   cases v with
   | inl v =>
    cases w with
    | inl w => exact ⟨_, _, rfl, e', .inl ⟨_, rfl⟩⟩
    | inr w => exact hz.elim
   | inr v =>
    cases w with
    | inl w => exact hz.elim
    | inr w =>
     obtain ⟨z1, z2, z3, k, k', k1, k2, k3, g1, g2⟩ := hz;have hlo := hp.1.lo;rw [g2] at hlo;simp only at hlo;have e2 : iter (AH Q') f ([v.1], v.2.q, v.2.at_) = some o' := e';rw [g2] at e2;obtain ⟨o, e3, hR⟩ := UB (Q := Q) (Q' := Q') (A := [w.1]) (A' := [v.1]) hq (by omega) (by simp) (by simp) (by show w.1.attr = v.1.attr; rw [z3]) (by simp only [List.length_singleton]; omega) (by simp only [List.length_singleton]; omega) f f [] k k' o' k1 k2 k3 e2 (by omega) (Nat.zero_le _);refine ⟨o, o', by show iter (AH Q) f ([w.1], w.2.q, w.2.at_) = some o; rw [g1]; exact e3, e', ?_⟩;rcases o with l | (z | y)
     ·rcases o' with l' | (z' | y')
      ·obtain ⟨m, rfl, rfl⟩ := hR;refine .inr ⟨v.1, m, by rw [z3]; exact z1, by rw [z3], ?_, rfl, fun h47 => ?_⟩
       ·have : w.1 = { v.1 with deep := true } := by rw [z3, <- z2]
        rw [<- this]; rfl
       ·have := Afm f v.1 (Q := Q') k2 (fun hm => h47 (by
         have hsub : Q'.drop k' = t.drop (k' - 1) := by rw [<- c1, List.drop_drop]; congr 1; omega
         rw [hsub] at hm
         exact List.mem_of_mem_drop hm)) e2
        simpa using this
      ·exact hR.elim
      ·exact hR.elim
     ·exact .inl ⟨z, rfl⟩
     ·rcases o' with l' | (z' | y') <;> exact hR.elim
end
theorem Rv {Q : List By8} (hQ : Q.length <= 8388608) (p : List Int) (hs : Sm p) (hp : p.length <= 1048576) (t : List By8) (hq : Q = Eu p ++ 47 :: t) : ∀ (j : Nat), j <= p.length -> ∀ f, iter (AH Q) (f + j) (([] : List Ag), Q, (0 : Int)) = iter (AH Q) f ((p.take j).map Fs, Q, ((Eu (p.take j)).length : Int))
 | 0, _, f => by rw [List.take_zero]; rfl
 | j + 1, hj, f => by
  have hi : j < p.length := hj;rw [show f + (j + 1) = (f + 1) + j by omega, Rv hQ p hs hp t hq j (by omega) (f + 1), BH];have hsp : Q = Eu (p.take j) ++ (JX p[j] ++ (Eu (p.drop (j + 1)) ++ 47 :: t)) := by
   have : Eu p = Eu (p.take j) ++ Eu (p.drop j) := by unfold Eu; rw [<- List.flatMap_append, List.take_append_drop]
   rw [hq, this, List.drop_eq_getElem_cons hi];unfold Eu;rw [List.flatMap_cons]; simp
  have hd : Q.drop (Eu (p.take j)).length = JX p[j] ++ (Eu (p.drop (j + 1)) ++ 47 :: t) := by
   conv => lhs; rw [hsp]
   rw [List.drop_left]
  have hlen := congrArg List.length hsp;simp only [bk, bi] at hlen;have hA : Ic ((p.take j).map Fs) = false := by
   by_cases h0 : j = 0
   ·subst h0; rfl
   ·obtain ⟨i, rfl⟩ : ∃ i, j = i + 1 := ⟨j - 1, by omega⟩
    rw [List.take_succ_eq_append_getElem (by omega : i < p.length), List.map_append];exact MZ _ _
  have hB : (Eu (p.drop (j + 1)) ++ 47 :: t) = [] \/ ∃ C, (Eu (p.drop (j + 1)) ++ 47 :: t) = 47 :: C := by
   cases p.drop (j + 1) with
   | nil => exact .inr ⟨_, rfl⟩
   | cons a r => exact .inr ⟨_, rfl⟩
  have hT : Eu (p.take (j + 1)) = Eu (p.take j) ++ JX p[j] := by
   unfold Eu; rw [List.take_succ_eq_append_getElem hi, List.flatMap_append]; simp
  rw [Gc _ _ _ _ _ (by rw [List.length_map, List.length_take]; omega), bf (by omega), Bool.or_true, bb, hA, bc, Aam hQ hd (hs _ (bm hi)) hB, ba, hT, bk, List.take_succ_eq_append_getElem hi, List.map_append];rfl
theorem UE (p : List Int) (hs : Sm p) (hp : p.length <= 1000) (t : List By8) (ht : t.length + 1 + p.length <= 1048576) {S : List Ag} (h : iter (AH (47 :: t)) FUEL (([] : List Ag), 47 :: t, (0 : Int)) = some (.inl S)) :
  iter (AH (Eu p ++ 47 :: t)) FUEL (([] : List Ag), Eu p ++ 47 :: t, (0 : Int)) = some (.inl (p.map Fs ++ S)) := by
 by_cases h0 : p = []
 ·subst h0; exact h
 ·have hal := L3 p;have h1 : 1 <= p.length := List.length_pos_iff.2 h0;obtain ⟨f, hf⟩ : ∃ f, FUEL = (f + 1) + p.length := ⟨FUEL - 1 - p.length, by unfold FUEL; omega⟩
  obtain ⟨g, hg⟩ : ∃ g, FUEL = g + 1 := ⟨FUEL - 1, by unfold FUEL; rfl⟩
  have hFl : 2097152 < f := by unfold FUEL at hf; omega
  generalize hQe : Eu p ++ 47 :: t = Q;generalize hQe' : (47 :: t : List By8) = Q' at h;have hQl : Q.length = (Eu p).length + (t.length + 1) := by rw [<- hQe]; simp
  have hQl' : Q'.length = t.length + 1 := by rw [<- hQe']; rfl
  have hq : Q.length <= 8388608 := by omega
  have hdr : Q.drop (Eu p).length = Q'.drop 0 := by rw [<- hQe, List.drop_left, <- hQe', List.drop_zero]
  rw [hf, Rv hq p hs (by omega) t hQe.symm p.length (Nat.le_refl _) (f + 1), List.take_length, BH];rw [hg, BH, Gc _ _ _ _ _ (by simp)] at h;have hne : p.map Fs ≠ [] := by simpa using h0
  have hA : Ic (p.map Fs) = false := by
   unfold Ic;rw [List.getLast?_eq_some_getLast hne];show ((p.map Fs).getLast hne).attr = false;have := List.getLast_mem hne;obtain ⟨i, _, hi⟩ := List.mem_map.1 this;rw [<- hi]; rfl
  rw [Gc _ _ _ _ _ (by rw [List.length_map]; omega), bf (by omega), Bool.or_true, bb, hA, bc];have h' : ((Ay ⟨Q', ((0 : Nat) : Int)⟩).bind fun x => pnc x (fun r => some (.inr (.inl r.at_))) fun y => iter (AH Q') g ([y.1], y.2.q, y.2.at_)) = some (.inl S) := h;have hz := XF hq (Q' := Q') (by omega) (r := ⟨Q, ((Eu p).length : Int)⟩) (r' := ⟨Q', ((0 : Nat) : Int)⟩) ⟨(Eu p).length, 0, by omega, by omega, hdr, rfl, rfl⟩
  cases hv : Ay ⟨Q', ((0 : Nat) : Int)⟩ with
  | none => rw [hv] at h'; cases h'
  | some v =>
   rw [hv] at hz h'
   cases hw : Ay ⟨Q, ((Eu p).length : Int)⟩ with
   | none => rw [hw] at hz; exact hz.elim
   | some w =>
    rw [hw] at hz;rw [ba] at h' ⊢
    cases v with
    | inl v => cases h'
    | inr v =>
     cases w with
     | inl w => exact hz.elim
     | inr w =>
      obtain ⟨z1, k, k', k1, k2, k3, g1, g2⟩ := hz;have h2 : iter (AH Q') g ([v.1], v.2.q, v.2.at_) = some (.inl S) := h';rw [g2] at h2;show iter (AH Q) f (p.map Fs ++ [w.1], w.2.q, w.2.at_) = _;rw [g1, <- z1];obtain ⟨o, e3, hR⟩ := UB (Q := Q) (Q' := Q') (A := p.map Fs ++ [v.1]) (A' := [v.1]) hq (by omega) (by simp) (by simp) (by rw [MZ]; rfl) (by rw [bk, List.length_map, List.length_singleton]; omega) (by simp only [List.length_singleton]; omega) f g [] k k' (.inl S) k1 k2 k3 h2 (by omega) (Nat.zero_le _);rw [List.append_nil] at e3;rw [e3];rcases o with l | (z | y)
      ·obtain ⟨m, rfl, rfl⟩ := hR;rw [List.append_assoc]
      ·exact hR.elim
      ·exact hR.elim

set_option linter.unusedSimpArgs false
set_option linter.unusedVariables false
set_option maxRecDepth 100000
theorem MX (st : Ag) : ∀ (n : Nat) (s : Spt), szN s.node < n -> Fp st n s = (GD s.path s.node).flatMap (ofP st)
 | 0, _, h => by omega
 | n + 1, s, h => by
  have key : ∀ (l : List Ab) (i : Nat), (∀ k ∈ l, k ∈ s.node.Kids) -> (Gx s.path i l).flatMap (Fp st n) = (SO s.path i l).flatMap (ofP st) := by
   intro l
   induction l with
   | nil => intro i _; rfl
   | cons k l ih =>
    intro i hl;have hk := I5 (hl k List.mem_cons_self);simp only [Gx, SO, List.flatMap_cons, List.flatMap_append];rw [ih (i + 1) (fun k hk => hl k (List.mem_cons_of_mem _ hk)), MX st n ⟨s.path ++ [(i : Int)], k⟩ (by simp only; omega)]
  show ofP st s ++ (EA s).flatMap (Fp st n) = _;rw [TD, List.flatMap_cons];unfold EA;rw [key s.node.Kids 0 fun _ h => h]
def JL (st : Ag) : Ag := { st with deep := true }
theorem VO (st : Ag) : ofP (JL st) = ofP st := rfl
theorem Q2 {d : Ab} (hd : szN d <= 1048576) (st : Ag) (ha : st.attr = false) : ∃ l : List Spt, l.Perm ((GD [] d).flatMap (ofP st)) /\ D9 [JL st] [⟨[], d⟩] = l.map trS := by
 refine ⟨IK (JL st) [⟨[], d⟩], ?_, ?_⟩
 ·unfold IK;refine (Ik _).trans ?_;have e1 : stL (JL st) [⟨[], d⟩] = [⟨[], d⟩] := rfl;have e2 : stF (JL st) = Fp (JL st) FUEL := rfl;rw [e1, e2, List.flatMap_cons, List.flatMap_nil, List.append_nil, MX _ FUEL _ (by unfold FUEL; simp only; omega), VO]
 ·show (if (JL st).attr then _ else D9 [] (IK (JL st) [⟨[], d⟩])) = _;rw [if_neg (by show ¬ st.attr = true; rw [ha]; decide)]; rfl
theorem Q3 {d : Ab} (st : Ag) (ha : st.attr = false) (hdp : st.deep = false) (s : Spt) : ∃ l : List Spt, l.Perm (ofP st s) /\ D9 [st] [s] = l.map trS := by
 refine ⟨IK st [s], ?_, ?_⟩
 ·unfold IK;refine (Ik _).trans ?_;have e1 : stL st [s] = [s] := by unfold stL; rw [hdp]; rfl
  have e2 : stF st = ofP st := by funext x; unfold stF; rw [hdp]; rfl
  rw [e1, e2, List.flatMap_cons, List.flatMap_nil, List.append_nil]
 ·show (if st.attr then _ else D9 [] (IK st [s])) = _;rw [if_neg (by rw [ha]; decide)]; rfl
theorem Nb (S : List Ag) : ∀ (p q : List Int) (x y : Ab), atP x p = some y -> D9 (p.map Fs ++ S) [⟨q, x⟩] = D9 S [⟨q ++ p, y⟩]
 | [], q, x, y, h => by
  simp only [atP, Option.some.injEq] at h;subst h;rw [List.append_nil]; rfl
 | i :: p, q, x, y, h => by
  simp only [atP] at h;split at h
  ·cases h
  ·rename_i hi;obtain ⟨z, hz, h2⟩ := Option.bind_eq_some_iff.1 h;show D9 (p.map Fs ++ S) (IK (Fs i) [⟨q, x⟩]) = _;have e := Yl i.toNat q x z hz;rw [show ((i.toNat : Nat) : Int) = i by omega] at e;rw [e, Nb S p _ z y h2, List.append_assoc];rfl
theorem Ll {α β γ : Type} {f : α -> List β} {g : α -> List γ} : ∀ (l : List α), (∀ s ∈ l, (f s).length = (g s).length) -> (l.flatMap f).length = (l.flatMap g).length
 | [], _ => rfl
 | x :: l, h => by
  rw [List.flatMap_cons, List.flatMap_cons, bk, bk, h x List.mem_cons_self, Ll l fun s hs => h s (List.mem_cons_of_mem _ hs)]
theorem Se (t : List By8) (ht : t.length <= 1048576) : Bf t = some (t.all fun c => c != 47) := by
 unfold Bf;simp only [letJ]
 rw [UI t (fun c => c != 47) (b := BY t) (r := false) (by omega) (fun rec i h => by
  have e1 : ((t[i].toNat : Int) != (47 : Int)) = (t[i] != 47) := Abp t[i] 47 (by decide);unfold BY;rw [bf (by omega), bb, AE h, ba, ZQ (by omega), <- e1];unfold bne
  cases ((t[i].toNat : Int) == (47 : Int)) <;> rfl) (fun rec => by
  unfold BY
  rw [bg (by omega), bc]), ba]
 cases (t.all fun c => c != 47) <;> rfl
theorem Ut : ∀ (n : Nat) (p : Ab), szN p < n -> szN p <= 1048576 -> ∃ z, iter BB n p = some z
 | 0, p, h, _ => by omega
 | n + 1, p, h, hl => by
  have hk := Ff p;have hkl := EV p;have ih := fun q => Ut n q;rw [BH];generalize iter BB n = rc at ih ⊢;unfold BB;simp only [letJ]
  obtain ⟨o, e, _⟩ := AU (b := Cq p rc) (fun i s => s.2 = (i : Int)) (fun _ => True) p.Kids.length (x0 := ((0 : Int), (0 : Int))) rfl (by
   rintro i ⟨a, _⟩ rec hi rfl;left;have h1 := Jo (bm hi);obtain ⟨z, hz⟩ := ih p.Kids[i] (by omega) (by omega);refine ⟨((if z > a then z else a), ((i + 1 : Nat) : Int)), ?_, rfl⟩;unfold Cq;simp only
   rw [bf (by omega), bb, AE hi, ba, hz, ba, ZQ (by omega)]) (by
   rintro ⟨a, _⟩ rec rfl;refine ⟨a, ?_, trivial⟩;unfold Cq;dsimp only
   rw [bg (by omega), bc]) (n := FUEL) (by unfold FUEL; omega)
  rw [e, ba];exact ⟨_, rfl⟩
theorem Sk (x3 : List Ak × Int × Int) (t : Ak) (hl : x3.1.length <= 4398046511104) (hb : ∀ u ∈ x3.1, u.Steps.length <= 1048576) (ht : t.Steps.length <= 1048576) :
  iter (BE x3 t) FUEL (false, (0 : Int)) = some (x3.1.any fun u => GZ t u == 0) := by
 obtain ⟨o, e, rfl⟩ := AU (b := BE x3 t) (fun i s => s = ((x3.1.take i).any (fun u => GZ t u == 0), (i : Int))) (fun o => o = x3.1.any fun u => GZ t u == 0) x3.1.length (x0 := (false, (0 : Int))) rfl (by
  rintro i _ rec hi rfl;left;refine ⟨_, ?_, rfl⟩;have hu := hb _ (bm hi);unfold BE;simp only [letJ];rw [bf (by omega), bb, AE hi, ba, Aaf _ _ (by omega) (by omega), ba, w64 (by omega) (by omega), List.take_succ_eq_append_getElem hi, List.any_append]
  cases (x3.1.take i).any (fun u => GZ t u == 0) <;> simp) (by
  rintro _ rec rfl;refine ⟨_, ?_, rfl⟩;unfold BE;dsimp only
  rw [bg (by omega), bc, List.take_length]) (n := FUEL) (by unfold FUEL; omega)
 exact e
theorem Tk (p1 : List By8) (one : Bool) (h1 : Bf p1 = some one) (x3 x : List Ak × Int × Int) (hl3 : x3.1.length <= 4398046511104) (hb3 : ∀ u ∈ x3.1, u.Steps.length <= 1048576) (hl : x.1.length <= 4398046511104) (hb : ∀ u ∈ x.1, u.Steps.length <= 1048576)
  (hin : one = true -> ∀ u ∈ x.1, u ∈ x3.1) : iter (BD p1 x3 x) FUEL (0 : Int) = some (.inl ()) := by
 obtain ⟨o, e, rfl⟩ := AU (b := BD p1 x3 x) (fun i s => s = (i : Int)) (fun o => o = .inl ()) x.1.length (x0 := (0 : Int)) rfl (by
  rintro i _ rec hi rfl;left;refine ⟨((i + 1 : Nat) : Int), ?_, rfl⟩;have hm := bm hi;unfold BD;simp only [letJ];rw [bf (by omega), bb, AE hi, ba, Sk x3 _ hl3 hb3 (hb _ hm), ba, w64 (by omega) (by omega), h1, ba]
  cases one with
  | false => cases (x3.1.any fun u => GZ x.1[i] u == 0) <;> rfl
  | true =>
   have : (x3.1.any fun u => GZ x.1[i] u == 0) = true := by
    rw [List.any_eq_true];exact ⟨_, hin rfl _ hm, by rw [RT.refl]; rfl⟩
   rw [this]; rfl) (by
  rintro _ rec rfl;refine ⟨_, ?_, rfl⟩;unfold BD;simp only [letJ]
  rw [bg (by omega), bc]) (n := FUEL) (by unfold FUEL; omega)
 exact e
section
variable {d : Ab} (hd : szN d <= 1048576) (hc : DE d = some 0) (hg : GoodT d) (h61 : (Dn d).length <= 61) (t : List By8) (ht : t.length + 1 + szN d <= 1048576) {S : List Ag}
 (hS : iter (AH (47 :: t)) FUEL (([] : List Ag), 47 :: t, (0 : Int)) = some (.inl S)) (h20 : S.length <= 20) (one : Bool) (h1 : Bf t = some one)
 (x3 : List Ak × Int × Int) (hl3 : x3.1.length <= 4398046511104) (hb3 : ∀ u ∈ x3.1, u.Steps.length <= 1048576) (hin : one = true -> ∀ s ∈ GD [] d, ∀ u ∈ D9 S [s], u ∈ x3.1)
include hd hc hg h61 ht hS h20 h1 hl3 hb3 hin
theorem Um : ∃ o, iter (Bi d t x3 (DQ d)) FUEL ((0 : Int), (0 : Int)) = some o /\ (o = .inr true \/ o = .inl ((((GD [] d).flatMap fun s => D9 S [s]).length : Nat) : Int)) := by
 have hm2 := (N8 [] d).2;have hm1 := (N8 [] d).1;have hid : (DQ d).map (([] : List Int) ++ ·) = DQ d := by simp
 rw [hid] at hm2;have hlen : (DQ d).length = (GD [] d).length := by rw [<- hm2, List.length_map]
 have hlen61 : (GD [] d).length <= 61 := by rw [<- hm1, List.length_map] at h61; exact h61
 obtain ⟨x, hx⟩ := Aed hd (47 :: t) (by simp only [bi]; omega);have hxe : x = (S, 0, 0) := by
  have h2 := hx.r;rw [NT hS, show rdL (.inl S) = some (if 20 < S.length then ([], 0, 5) else (S, 0, 0)) from rfl, if_neg (by omega)] at h2;exact (Option.some.inj h2).symm
 have hok := hx.st;rw [hxe] at hok
 have inv : ∀ s ∈ GD [] d, InvS d [s] := fun s hs => ⟨List.pairwise_singleton _ _, fun y hy => by
  rw [List.mem_singleton.1 hy];obtain ⟨r, e1, e2⟩ := (RE _ [] d s (Nat.lt_succ_self _)).1 hs;show atP d s.path = some s.node
  rw [e1]; exact e2⟩
 have hsum : ∀ j, (((GD [] d).take j).flatMap fun s => D9 S [s]).length <= 61 * 4398046511104 := fun j => by
  have h := K7 (fun s => D9 S [s]) 4398046511104 ((GD [] d).take j) fun s hs => KT hd S [s] (inv s (List.mem_of_mem_take hs));have h2 : ((GD [] d).take j).length <= 61 := by rw [List.length_take]; omega
  exact Nat.le_trans h (Nat.mul_le_mul_right _ h2)
 refine AU (b := Bi d t x3 (DQ d)) (fun j s => s = (((((GD [] d).take j).flatMap fun s => D9 S [s]).length : Int), (j : Int))) (fun o => o = .inr true \/ o = .inl ((((GD [] d).flatMap fun s => D9 S [s]).length : Nat) : Int)) (GD [] d).length (x0 := ((0 : Int), (0 : Int))) rfl ?_ ?_ (n := FUEL) (by unfold FUEL; omega)
 ·rintro j _ rec hj rfl;have hjm := bm hj;have hp : (DQ d)[j]? = some (GD [] d)[j].path := by rw [<- hm2, List.getElem?_map, List.getElem?_eq_getElem hj]; rfl
  obtain ⟨hpj, hpe⟩ := List.getElem?_eq_some_iff.1 hp;have hv : atP d (GD [] d)[j].path = some (GD [] d)[j].node := (inv _ hjm).v _ List.mem_cons_self;have hsm := M7 _ _ _ h61 hv;have hpl := Nz _ _ _ hv;have hpl61 : (GD [] d)[j].path.length <= 1000 := by
   have h2 : ∀ (n : Nat) (x y : Ab) (p : List Int), p.length < n -> atP x p = some y -> p.length <= (Dn x).length := by
    intro n
    induction n with
    | zero => intro _ _ _ h; omega
    | succ n ih =>
     intro x y p hn h
     cases p with
     | nil => exact Nat.zero_le _
     | cons i p =>
      simp only [atP] at h;split at h
      ·cases h
      ·obtain ⟨z, hz, h3⟩ := Option.bind_eq_some_iff.1 h;obtain ⟨hjj, rfl⟩ := List.getElem?_eq_some_iff.1 hz;have h4 := Ib x.Kids (bm hjj);have h5 := ih _ y p (by simp only [bi] at hn; omega) h3;rw [F3, bi, bi]; omega
   have := h2 _ d _ _ (Nat.lt_succ_self _) hv;omega
  have hrd := NT (UE (GD [] d)[j].path hsm hpl61 t (by omega) hS);have hal := L3 (GD [] d)[j].path;have hPl := KT hd S [(GD [] d)[j]] (inv _ hjm);have hsumj := hsum j;have eq : (Eu (GD [] d)[j].path ++ ([47] : List By8)) ++ t = Eu (GD [] d)[j].path ++ 47 :: t := by simp
  unfold Bi;simp only [letJ];rw [bf (by omega), bb, AE hpj, ba, hpe, SH _ hsm (by omega), ba, HG (by simp only [bi, bj]; omega), ba, HG (by simp only [bk, bi, bj]; omega), ba, eq];by_cases hm : 20 < ((GD [] d)[j].path.map Fs ++ S).length
  ·rw [show rdL (.inl ((GD [] d)[j].path.map Fs ++ S)) = some (if 20 < ((GD [] d)[j].path.map Fs ++ S).length then ([], 0, 5) else ((GD [] d)[j].path.map Fs ++ S, 0, 0)) from rfl, if_pos hm] at hrd;rw [NM hd _ _ hrd (fun st hst => by cases hst) (by simp), if_pos (by decide), ba];right;refine ⟨Sum.inr true, ?_, .inl rfl⟩;show some (Sum.inr ((decide ((17 : Int) < ((GD [] d)[j].path.length : Int))) || true)) = _;rw [Bool.or_true]
  ·rw [show rdL (.inl ((GD [] d)[j].path.map Fs ++ S)) = some (if 20 < ((GD [] d)[j].path.map Fs ++ S).length then ([], 0, 5) else ((GD [] d)[j].path.map Fs ++ S, 0, 0)) from rfl, if_neg hm] at hrd
   have hpk := NM hd _ _ hrd (fun st hst => by
    rcases List.mem_append.1 hst with h | h
    ·obtain ⟨k, hk, rfl⟩ := List.mem_map.1 h;exact Vi hd (hsm k hk)
    ·exact hok st h) (by simp only; omega)
   rw [if_neg (by simp), if_pos hc] at hpk;simp only at hpk;rw [Nb S _ [] d _ hv, List.nil_append] at hpk;have hst := Kb hd hg S [(GD [] d)[j]] (inv _ hjm);have hsp : (⟨(GD [] d)[j].path, (GD [] d)[j].node⟩ : Spt) = (GD [] d)[j] := rfl;rw [hsp] at hpk;rw [hpk, ba];left;refine ⟨(((((GD [] d).take (j + 1)).flatMap fun s => D9 S [s]).length : Int), ((j + 1 : Nat) : Int)), ?_, rfl⟩;simp only [bne_self_eq_false, bc];rw [Tk t one h1 x3 (D9 S [(GD [] d)[j]], 0, 0) hl3 hb3 hPl (fun u hu => (hst.v u hu).2) (fun ho u hu => hin ho _ hjm u hu), ba];simp only;rw [w64 (by omega) (by omega), w64 (by omega) (by omega), List.take_succ_eq_append_getElem hj, List.flatMap_append, bk, List.flatMap_cons, List.flatMap_nil, List.append_nil];congr 1
 ·rintro _ rec rfl;refine ⟨_, ?_, .inr rfl⟩;unfold Bi;dsimp only;rw [bg (by omega), bc, List.take_length]
end
theorem O4 (d : Ab) (t : List By8) (hB : t.length + 1 + szN d <= 1048576) : BR d t = some true := by
 have hd : szN d <= 1048576 := by omega
 have h8 : 8 <= szN d := by cases d; simp only [szN, Bl]; omega
 obtain ⟨o, o', e1, e2, h⟩ := Tp t (by omega);obtain ⟨x, hx⟩ := Aed hd (47 :: 47 :: t) (by simp only [bi]; omega);obtain ⟨y, hy⟩ := Aed hd (47 :: t) (by simp only [bi]; omega);have hxr := hx.r;have hyr := hy.r;rw [NT e1] at hxr;rw [NT e2] at hyr;have p1 := NM hd _ x hx.r hx.st hx.l;have p2 := NM hd _ y hy.r hy.st hy.l;have core : ∀ (a b : List Ak × Int × Int), B4 d (47 :: 47 :: t) = some a -> B4 d (47 :: t) = some b ->
   cond (a.2.2 != b.2.2) (some (a.2.2 == (36 : Int))) ((letJ (fun v8 : Bool => (letJ (fun v12 : Bool => (letJ (fun v16 : Bool => cond v16
      (some true)
      (letJ (fun a253 : Int =>
       (Bf t).bind fun x502 =>
      some ((!x502) || (a253 == (a.1.length : Int)))) fun J254 =>
      (BS d).bind fun x255 =>
      (iter (Bi d t a x255) FUEL ((0 : Int), (0 : Int))).bind fun o =>
      match o with
      | .inl o1 => J254 o1
      | .inr o1 => some o1)) fun J15 => cond v12 (J15 true) ((letJ (fun v19 : Bool => J15 v19) fun J18 => cond (decide ((0 : Int) < (b.1.length : Int))) ((idx b.1 (0 : Int)).bind fun x20 =>
      J18 x20.Attr) (J18 false))))) fun J11 => cond v8 (J11 true) ((Cw d).bind fun x13 =>
    J11 (decide ((18 : Int) < x13))))) fun J7 => cond (a.2.2 != (0 : Int)) (J7 true) ((BK d (61 : Int)).bind fun x9 =>
   J7 (!x9)))) = some true -> BR d t = some true := fun a b ha hb h => by
  unfold BR;rw [YI, ba, Bool.not_true, bc, HG (by simp only [bi, bj]; omega), ba];show ((B4 d (47 :: 47 :: t)).bind _) = _;rw [ha, ba, HG (by simp only [bi, bj]; omega), ba];show ((B4 d (47 :: t)).bind _) = _;rw [hb, ba];exact h
 obtain ⟨r, hc, hgood⟩ := Ns d hd;have err : ∀ (a b : List Ak × Int × Int), B4 d (47 :: 47 :: t) = some a -> B4 d (47 :: t) = some b -> a.2.2 ≠ 0 -> (a.2.2 = 36 \/ b.2.2 = a.2.2) -> BR d t = some true := fun a b ha hb h0 hh => by
  refine core a b ha hb ?_
  cases hne : (a.2.2 != b.2.2) with
  | true =>
   rcases hh with h36 | hab
   ·rw [h36]; rfl
   ·rw [hab] at hne; simp at hne
  | false =>
   simp only [letJ, bc];rw [show (a.2.2 != (0 : Int)) = true by simpa using h0, bb]; rfl
 rcases h with ⟨z, rfl⟩ | ⟨st, m, ha, hdp, rfl, rfl, hone⟩
 ·have : x = ([], z, 36) := (Option.some.inj hxr).symm;subst this;rw [if_pos (by simp)] at p1;exact err _ _ p1 p2 (by simp) (.inl rfl)
 ·rw [show rdL (.inl ({ st with deep := true } :: m)) = some (if 20 < (({ st with deep := true } : Ag) :: m).length then ([], 0, 5) else ({ st with deep := true } :: m, 0, 0)) from rfl] at hxr;rw [show rdL (.inl (st :: m)) = some (if 20 < (st :: m).length then ([], 0, 5) else (st :: m, 0, 0)) from rfl] at hyr;by_cases h20 : 20 < (st :: m).length
  ·rw [if_pos (by simpa using h20)] at hxr;rw [if_pos h20] at hyr;cases hxr; cases hyr;rw [if_pos (by simp)] at p1 p2;exact err _ _ p1 p2 (by simp) (.inr rfl)
  ·rw [if_neg (by simpa using h20)] at hxr;rw [if_neg h20] at hyr;cases hxr; cases hyr;rw [if_neg (by simp)] at p1 p2;by_cases hr : r = 0
   ·subst hr;rw [if_pos hc] at p1 p2;refine core _ _ p1 p2 ?_;simp only [bne_self_eq_false, bc, letJ];rw [Yq d hd, ba];by_cases h61 : (Dn d).length <= 61
    ·rw [bf (by omega)];simp only [Bool.not_true, bc];obtain ⟨z, hz⟩ := Ut FUEL d (by unfold FUEL; omega) hd;have hz' : Cw d = some z := hz;rw [hz', ba]
     cases decide ((18 : Int) < z) with
     | true => rfl
     | false =>
      simp only [bc]
      have key : ((BS d).bind fun x255 =>
        (iter (Bi d t (D9 (JL st :: m) [⟨[], d⟩], 0, 0) x255) FUEL ((0 : Int), (0 : Int))).bind fun o =>
        match o with
        | .inl o1 => (Bf t).bind fun x502 => some ((!x502) || (o1 == ((D9 (JL st :: m) [⟨[], d⟩]).length : Int)))
        | .inr o1 => some o1) = some true := by
       have hg := hgood rfl;have hR := VQ d;have hst := Kb hd hg (JL st :: m) [⟨[], d⟩] hR;have h1 := Se t (by omega);have hm : (t.all fun c => c != 47) = true -> m = [] := fun hall => hone fun h47 => by
        have := List.all_eq_true.1 hall 47 h47;simp at this
       obtain ⟨o, e, ho⟩ := Um hd hc hg h61 t hB e2 (by omega) _ h1 (D9 (JL st :: m) [⟨[], d⟩], 0, 0) (KT hd _ _ hR) (fun u hu => (hst.v u hu).2) (fun hall s hs u hu => by
        have := hm hall;subst this;obtain ⟨l, hl, hl2⟩ := Q2 hd st ha;obtain ⟨l3, hl3, hl4⟩ := Q3 (d := d) st ha hdp s;rw [hl4] at hu;obtain ⟨w, hw, rfl⟩ := List.mem_map.1 hu;show trS w ∈ D9 [JL st] [⟨[], d⟩];rw [hl2]
        exact List.mem_map.2 ⟨w, hl.mem_iff.2 (List.mem_flatMap.2 ⟨s, hs, hl3.mem_iff.1 hw⟩), rfl⟩)
       rw [Y8 d hd, ba, e, ba];rcases ho with rfl | rfl
       ·rfl
       ·simp only;rw [h1, ba]
        cases hall : (t.all fun c => c != 47) with
        | false => rfl
        | true =>
         have := hm hall;subst this;obtain ⟨l, hl, hl2⟩ := Q2 hd st ha;have hn : ((GD [] d).flatMap fun s => D9 [st] [s]).length = (D9 [JL st] [⟨[], d⟩]).length := by
          rw [hl2, List.length_map, hl.length_eq];exact Ll _ fun s hs => by
           obtain ⟨l3, hl3, hl4⟩ := Q3 (d := d) st ha hdp s;rw [hl4, List.length_map, hl3.length_eq]
         rw [hn];simp
      cases hL : D9 (st :: m) [⟨[], d⟩] with
      | nil => exact key
      | cons u L =>
       rw [bf (by simp only [bi]; omega), bb, show idx (u :: L) (0 : Int) = some u from AE (l := u :: L) (i := 0) (by simp), ba]
       cases u.Attr with
       | true => rfl
       | false => exact key
    ·rw [bg (by omega)]; rfl
   ·rw [hc, if_neg (by simpa using hr)] at p1 p2;exact err _ _ p1 p2 hr (.inr rfl)

set_option linter.unusedVariables false
theorem Mw (d : Ab) (q : List By8) {b0 b1 : Nat} (t0 : szN d <= b0) (t1 : q.length + 1 <= b1) (hb : b0 + b1 <= 1048576) (hp : Heap) : CallsA prog 5 [.agg (Ae d), .str q] hp fun d _ => d = .bool true :=
 (GP d q (G := fun b => b = true) hp ⟨true, O4 d q (by omega), rfl⟩).mono fun d h' ⟨r, hr, hd⟩ => by subst hr; exact hd

set_option linter.unusedVariables false
set_option maxRecDepth 100000
open Go.ChangeShapes Go.WideShapes Go.ChangeAt Go.RowKit Go.Lib
def MO (x : Ab) : Prop := True
theorem IR {H : Type} {enc : TypeId × Value -> H} {w : World} {base : Nat} {held : Bool} : ∀ N : Nat, B.Rds N enc prog w base (fun _ => true) held 27 MO Bl Ae
 | 0 => B.Rds.zero
 | N + 1 => B.rd_structS underlying27 (.cons (k := 1) rfl (by kernel_rfl) (B.rd_int underlying3) (.cons (k := 2) rfl (by kernel_rfl) (B.rd_struct underlying23 (.cons (k := 1) rfl (by kernel_rfl) (B.rd_str underlying9) (.cons (k := 1) rfl (by kernel_rfl) (B.rd_str underlying9) .nil)) (by kernel_rfl) (ok' := (fun x : Aa => ((fun s : List By8 => s.length <= 9223372036854775807)) x.URI /\ ((fun s : List By8 => s.length <= 9223372036854775807)) x.Local /\ True)) (sz' := (fun x : Aa => ((fun s : List By8 => s.length + 1) x.URI + ((fun s : List By8 => s.length + 1) x.Local + 0)) + 1)) (c' := Au) (fun y => (⟨y.1, y.2.1⟩ : Aa)) (fun y h => ⟨h, rfl, rfl⟩)) (.cons (k := 1) rfl (by kernel_rfl) (B.rd_slice underlying24 (k := 3) (by kernel_rfl) (by decide) (fun _ _ => rfl) (B.rd_struct underlying56 (.cons (k := 2) rfl (by kernel_rfl) (B.rd_struct underlying23 (.cons (k := 1) rfl (by kernel_rfl) (B.rd_str underlying9) (.cons (k := 1) rfl (by kernel_rfl) (B.rd_str underlying9) .nil)) (by kernel_rfl) (ok' := (fun x : Aa => ((fun s : List By8 => s.length <= 9223372036854775807)) x.URI /\ ((fun s : List By8 => s.length <= 9223372036854775807)) x.Local /\ True)) (sz' := (fun x : Aa => ((fun s : List By8 => s.length + 1) x.URI + ((fun s : List By8 => s.length + 1) x.Local + 0)) + 1)) (c' := Au) (fun y => (⟨y.1, y.2.1⟩ : Aa)) (fun y h => ⟨h, rfl, rfl⟩)) (.cons (k := 1) rfl (by kernel_rfl) (B.rd_str underlying9) .nil)) (by kernel_rfl) (ok' := (fun x : Aj => ((fun x : Aa => ((fun s : List By8 => s.length <= 9223372036854775807)) x.URI /\ ((fun s : List By8 => s.length <= 9223372036854775807)) x.Local /\ True)) x.Name /\ ((fun s : List By8 => s.length <= 9223372036854775807)) x.Value /\ True)) (sz' := (fun x : Aj => ((fun x : Aa => ((fun s : List By8 => s.length + 1) x.URI + ((fun s : List By8 => s.length + 1) x.Local + 0)) + 1) x.Name + ((fun s : List By8 => s.length + 1) x.Value + 0)) + 1)) (c' := Ar) (fun y => (⟨y.1, y.2.1⟩ : Aj)) (fun y h => ⟨h, rfl, rfl⟩))) (.cons (k := 1) rfl (by kernel_rfl) (B.rd_slice underlying25 (k := 6) (by kernel_rfl) (by decide) (fun y _ => by rw [Ac]; rfl) (IR N)) (.cons (k := 1) rfl (by kernel_rfl) (B.rd_str underlying9) .nil))))) (by kernel_rfl) (fun y => (⟨y.1, y.2.1, y.2.2.1, y.2.2.2.1, y.2.2.2.2.1⟩ : Ab)) (fun y h => ⟨trivial, by show Bl (⟨_, _, _, _, _⟩ : Ab) = _; rw [Bl, KS], by rw [Ac]; rfl⟩)
end Go.Proofs.YtmnbjcpikllknaaGreatDoor
