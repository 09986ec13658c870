/- All paths; numbers written in digits; the query of a path. No condition. -/
import Derived.Test.YtmnbjcpikllknaaGreatDoorX4
import Derived.Test.YtmnbjcpikllknaaGreatDoorX2
import Derived.Test.YtmnbjcpikllknaaGreatDoorX3
import Derived.Test.YtmnbjcpikllknaaGreatDoorWk
set_option linter.unusedSimpArgs false
set_option linter.unusedVariables false
set_option maxRecDepth 100000
namespace Go.Proofs.YtmnbjcpikllknaaGreatDoor
open Go.Proofs.Tryz
theorem Yb (d : Ac) (h : szN d <= 1048576) (k : Int) : B7 d k = some (decide (((BE d).length : Int) <= k)) := by
 unfold B7;rw [Xt d h, ba]
theorem KV : ∀ (l m : List Ac) (i : Nat), DT i (l ++ m) = DT i l ++ DT (i + l.length) m
 | [], m, i => by simp [DT]
 | x :: l, m, i => by
  simp only [List.cons_append, DT, KV l m (i + 1), List.append_assoc, bi];rw [show i + 1 + l.length = i + (l.length + 1) by omega]
theorem Qs {l : List Ac} {i : Nat} (h : i < l.length) : DT 0 (l.take (i + 1)) = DT 0 (l.take i) ++ (Dk l[i]).map ((i : Int) :: ·) := by
 rw [List.take_succ_eq_append_getElem h, KV, List.length_take, show 0 + min i l.length = i by omega];simp [DT]
theorem L6 (l : List Ac) (i : Nat) : (DT 0 (l.take i)).length <= (DT 0 l).length := by
 have := KV (l.take i) (l.drop i) 0;rw [List.take_append_drop] at this;rw [this, bk]; omega
theorem O2 (x : Ac) : Dk x = [] :: DT 0 x.Kids := by cases x; simp only [Dk]
theorem Mo : ∀ (n : Nat) (x : Ac) (p : List Int), szN x < n -> p ∈ Dk x -> ∃ y, atP x p = some y
 | 0, _, _, h, _ => by omega
 | n + 1, x, p, h, hp => by
  have key : ∀ (l : List Ac) (i : Nat) (q : List Int), (∀ k ∈ l, k ∈ x.Kids) -> q ∈ DT i l -> ∃ (j : Nat) (r : List Int) (hj : j < l.length), q = ((i + j : Nat) : Int) :: r /\ r ∈ Dk l[j] := by
   intro l
   induction l with
   | nil => intro i q _ hq; simp [DT] at hq
   | cons k l ih =>
    intro i q hl hq;simp only [DT, List.mem_append, List.mem_map] at hq;rcases hq with ⟨r, hr, rfl⟩ | hq
    ·exact ⟨0, r, by simp, rfl, hr⟩
    ·obtain ⟨j, r, hj, rfl, hr⟩ := ih (i + 1) q (fun k hk => hl k (List.mem_cons_of_mem _ hk)) hq;exact ⟨j + 1, r, by simpa using hj, by rw [show i + 1 + j = i + (j + 1) by omega], by simpa using hr⟩
  rw [O2, List.mem_cons] at hp;rcases hp with rfl | hp
  ·exact ⟨x, rfl⟩
  ·obtain ⟨j, r, hj, rfl, hr⟩ := key x.Kids 0 p (fun _ h => h) hp;have hk := IG (bm hj);obtain ⟨y, hy⟩ := Mo n x.Kids[j] r (by omega) hr;refine ⟨y, ?_⟩;have := OF [((j : Nat) : Int)] r x;rw [List.singleton_append] at this;rw [Nat.zero_add, this];have e1 : atP x [((j : Nat) : Int)] = some x.Kids[j] := by
    have h2 := On [] x j;rw [List.nil_append] at h2;rw [h2];simp [atP, List.getElem?_eq_getElem hj]
   rw [e1]; exact hy
theorem Rq : ∀ (n : Nat) (p : Ac), szN p < n -> szN p <= 1048576 -> iter Bp n p = some (Dk p)
 | 0, p, h, _ => by omega
 | n + 1, p, h, hl => by
  have hk := F0 p;have hkl := DJ p;have ih := fun q => Rq n q;rw [Dm];generalize iter Bp n = rc at ih ⊢;unfold Bp;simp only [letJ];have hL := KK p.Kids 0
  obtain ⟨o, e, hR⟩ := Bf (b := CF p rc) (fun i s => s = ([] :: DT 0 (p.Kids.take i), (i : Int))) (fun o => o = [] :: DT 0 p.Kids) p.Kids.length (x0 := ([([] : List Int)], (0 : Int))) (by simp [DT]) (by
   rintro i _ rec hi rfl;left;have h1 := LI (bm hi);have hP := Jn p.Kids[i];have hT := L6 p.Kids i;refine ⟨_, ?_, rfl⟩;unfold CF;simp only [letJ];rw [bf (by omega), bb, AI hi, ba, ih p.Kids[i] (by omega) (by omega), ba]
   obtain ⟨o, e, rfl⟩ := Bf (b := CJ (i : Int) (Dk p.Kids[i])) (fun j s => s = ([] :: DT 0 (p.Kids.take i) ++ ((Dk p.Kids[i]).take j).map ((i : Int) :: ·), (j : Int))) (fun o => o = [] :: DT 0 (p.Kids.take i) ++ (Dk p.Kids[i]).map ((i : Int) :: ·)) (Dk p.Kids[i]).length (x0 := ([] :: DT 0 (p.Kids.take i), (0 : Int))) (by simp) (by
    rintro j _ rec hj rfl;left;obtain ⟨y, hy⟩ := Mo _ p.Kids[i] _ (Nat.lt_succ_self _) (bm hj);have hpl := OE _ _ _ hy;refine ⟨_, ?_, rfl⟩;unfold CJ;dsimp only;rw [bf (by omega), bb, AI hj, ba, DL (by simp only [bi, bj]; omega) (by simp only [bi, bj]; omega), ba, DL (by simp only [bk, bi, bj, List.length_map, List.length_take]; omega) (by simp only [bk, bi, bj, List.length_map, List.length_take]; omega), ba, Pk (by omega), List.take_succ_eq_append_getElem hj, List.map_append, <- List.append_assoc]
    rfl) (by
    rintro _ rec rfl;refine ⟨_, ?_, rfl⟩;unfold CJ;dsimp only
    rw [bg (by omega), bc, List.take_length]) (n := FUEL) (by unfold FUEL; omega)
   rw [e, ba, w64 (by omega) (by omega), Qs hi]
   simp) (by
   rintro _ rec rfl;refine ⟨_, ?_, rfl⟩;unfold CF;dsimp only
   rw [bg (by omega), bc, List.take_length]) (n := FUEL) (by unfold FUEL; omega)
  rw [e, ba, hR, O2]
theorem Zg (d : Ac) (h : szN d <= 1048576) : Di d = some (Dk d) := Rq FUEL d (by unfold FUEL; omega) h
theorem Ty (a b : List Int) (ha : a.length <= 1048576) : Bh a b = some (a == b) := by
 unfold Bh;simp only [letJ];by_cases hl : a.length = b.length
 ·rw [show ((a.length : Int) != (b.length : Int)) = false by simp [hl], bc]
  have h := JS a.length 0 (fun i => a.getD i 0 == b.getD i 0) (b := B4 a b) (r := false) (by omega) (by omega) (fun rec i _ h => by
   unfold B4;rw [bf (by omega), bb, AI h, ba, AI (by omega : i < b.length), ba, Pk (by omega)];have e1 : a.getD i 0 = a[i] := by simp [List.getD, h]
   have e2 : b.getD i 0 = b[i]'(by omega) := by simp [List.getD, show i < b.length by omega]
   rw [e1, e2];by_cases he : a[i] = b[i]'(by omega)
   ·rw [he]; simp
   ·rw [show (a[i] != b[i]'(by omega)) = true by simpa using he, show (a[i] == b[i]'(by omega)) = false by rw [beq_eq_false_iff_ne]; exact he]; rfl) (fun rec i h _ => by
   unfold B4
   rw [bg (by omega), bc])
  rw [show ((0 : Nat) : Int) = 0 from rfl] at h;rw [h, ba];have : ((List.range' 0 (a.length - 0)).all fun i => a.getD i 0 == b.getD i 0) = (a == b) := by
   rw [Bool.eq_iff_iff, List.all_eq_true, beq_iff_eq];constructor
   ·intro h;refine List.ext_getElem hl fun i h1 h2 => ?_;have := h i (by rw [List.mem_range'_1]; omega);simpa [List.getD, h1, h2] using this
   ·rintro rfl i _; simp
  rw [this];cases (a == b) <;> rfl
 ·rw [show ((a.length : Int) != (b.length : Int)) = true by rw [bne_iff_ne]; omega, bb];symm;congr 1;rw [beq_eq_false_iff_ne];rintro rfl;exact hl rfl
def dg (m : Nat) : List By8 := if m < 10 then [UInt8.ofNat (48 + m)] else [UInt8.ofNat (48 + m / 10), UInt8.ofNat (48 + m % 10)]
theorem Acx : ((List.range 62).all fun m => decide (m = 0) || (BD (m : Int) == some (dg m))) = true := by kernel_rfl
theorem Vx (m : Nat) (h1 : 1 <= m) (h : m <= 61) : BD (m : Int) = some (dg m) := by
 have := (List.all_eq_true.1 Acx) m (List.mem_range.2 (by omega));simp only [Bool.or_eq_true, decide_eq_true_eq, beq_iff_eq] at this;exact this.resolve_left (by omega)
theorem RH (m : Nat) : 1 <= (dg m).length /\ (dg m).length <= 2 := by unfold dg; split <;> simp
abbrev TK : List By8 := [47, 110, 111, 100, 101, 40, 41, 91]
def Kw (i : Int) : List By8 := TK ++ (dg (i.toNat + 1) ++ [93])
theorem UL (i : Int) : (Kw i).length <= 11 := by
 have := RH (i.toNat + 1);unfold Kw;simp only [bk, bi, bj]; omega
def EH (p : List Int) : List By8 := p.flatMap Kw
theorem Pr (p : List Int) : (EH p).length <= 11 * p.length := by
 unfold EH
 induction p with
 | nil => simp
 | cons i p ih =>
  have := UL i;simp only [List.flatMap_cons, bk, bi]; omega
def Sm (p : List Int) : Prop := ∀ i ∈ p, 0 <= i /\ i <= 60
theorem Sl (p : List Int) (hs : Sm p) (hl : p.length <= 1048576) : CS p = some (EH p) := by
 unfold CS;simp only [letJ]
 obtain ⟨o, e, rfl⟩ := Bf (b := Cd p) (fun i s => s = (EH (p.take i), (i : Int))) (fun o => o = EH p) p.length (x0 := (([] : List By8), (0 : Int))) rfl (by
  rintro i _ rec hi rfl;left;obtain ⟨a1, a2⟩ := hs _ (bm hi);have hT := Pr (p.take i);rw [List.length_take] at hT;have hd := RH (p[i].toNat + 1);refine ⟨_, ?_, rfl⟩;unfold Cd;dsimp only;have hdig : BD (p[i] + 1) = some (dg (p[i].toNat + 1)) := by
   have := Vx (p[i].toNat + 1) (by omega) (by omega);rw [show ((p[i].toNat + 1 : Nat) : Int) = p[i] + 1 by omega] at this;exact this
  rw [bf (by omega), bb, AI hi, ba, OJ (by simp only [bi, bj]; omega), ba, w64 (x := p[i] + 1) (by omega) (by omega), hdig, ba, OJ (by simp only [bk, bi, bj]; omega), ba, OJ (by simp only [bk, bi, bj]; omega), ba, Pk (by omega)];have : EH (p.take (i + 1)) = ((EH (p.take i) ++ TK) ++ dg (p[i].toNat + 1)) ++ [93] := by
   unfold EH;rw [List.take_succ_eq_append_getElem hi, List.flatMap_append];simp [Kw]
  rw [this]) (by
  rintro _ rec rfl;refine ⟨_, ?_, rfl⟩;unfold Cd;dsimp only
  rw [bg (by omega), bc, List.take_length]) (n := FUEL) (by unfold FUEL; omega)
 rw [e, ba]

set_option linter.unusedSimpArgs false
set_option linter.unusedVariables false
set_option linter.unusedSectionVars false
set_option maxRecDepth 100000
def FG : List By8 := [110, 111, 100, 101]
def Jc (i : Int) : Ai := ⟨false, false, FG, ⟨[], FG⟩, [⟨91, i + 1, ⟨[], []⟩, [], (0, 0)⟩]⟩
theorem SH {z : By8} (h : z ∈ FG) : Cf (z.toNat : Int) = some true /\ Ce (z.toNat : Int) = some true /\ z.toNat < 128 := by
 simp only [FG, List.mem_cons, List.not_mem_nil, or_false] at h;rcases h with rfl | rfl | rfl | rfl <;> exact ⟨rfl, rfl, by decide⟩
section
variable {Q : List By8} (hQ : Q.length <= 8388608)
include hQ
theorem Oi {k : Nat} {l : List By8} (h : Q.drop k = l) (h0 : l ≠ []) : Q.length = k + l.length := by
 have h1 := congrArg List.length h;rw [List.length_drop] at h1;have : 0 < l.length := List.length_pos_iff.2 h0;omega
theorem Mj {k : Nat} {a b : List By8} (h : Q.drop k = a ++ b) : Q.drop (k + a.length) = b := by rw [<- List.drop_drop, h, List.drop_left]
theorem Aa1 {k : Nat} {w B : List By8} {z : By8} (h : Q.drop k = w ++ z :: B) (hw : w ≠ []) (hp : ∀ c ∈ w, Cf (c.toNat : Int) = some true /\ Ce (c.toNat : Int) = some true /\ c.toNat < 128) (hz : Cf (z.toNat : Int) = some false /\ z.toNat < 128) (h123 : z ≠ 123) :
  By ⟨Q, (k : Int)⟩ = some (.inr (⟨[], w⟩, ⟨Q, ((k + w.length : Nat) : Int)⟩)) := by
 have hl := Oi hQ h (by simp);rw [bk, bi] at hl;have hd : ∀ a, a <= w.length -> Q.drop (k + a) = w.drop a ++ z :: B := fun a ha => by
  rw [<- List.drop_drop, h, List.drop_append, show a - w.length = 0 by omega, List.drop_zero]
 have hw0 : 0 < w.length := List.length_pos_iff.2 hw
 obtain ⟨o, e, rfl⟩ := Bf (b := Dd ⟨Q, (k : Int)⟩) (fun i x => x = (Q, ((k + i : Nat) : Int))) (fun o => o = (Q, ((k + w.length : Nat) : Int))) w.length (x0 := (Q, (k : Int))) rfl (by
  rintro i _ rec hi rfl;left;refine ⟨_, ?_, rfl⟩;obtain ⟨p1, p2, p3⟩ := hp _ (bm hi);unfold Dd;simp only [letJ];rw [bf (by omega), bb, GX (by omega), ba, hd i (by omega), List.drop_eq_getElem_cons hi, List.cons_append, Pp _ _ p3, ba, p1, p2, w64 (x := ((k + i : Nat) : Int) + 1) (by omega) (by omega)];simp only [ba]
  rw [show (((w[i].toNat : Int) == (65533 : Int)) && (decide ((1 : Int) < (3 : Int)))) = false by
   rw [show ((w[i].toNat : Int) == (65533 : Int)) = false by rw [beq_eq_false_iff_ne]; omega]; rfl]
  cases (((k + i : Nat) : Int) == (k : Int)) <;> rfl) (by
  rintro _ rec rfl;refine ⟨_, ?_, rfl⟩;have := hd w.length (Nat.le_refl _);rw [List.drop_length, List.nil_append] at this;unfold Dd;simp only [letJ];rw [bf (by omega), bb, GX (by omega), ba, this, Pp _ _ hz.2, ba, hz.1];simp only [ba]
  cases (((z.toNat : Int) == (65533 : Int)) && (decide ((1 : Int) < (3 : Int)))) <;> rfl) (n := FUEL) (by unfold FUEL; omega)
 unfold By;simp only [letJ];rw [e, ba];simp only;rw [show ((((k + w.length : Nat) : Int)) == (k : Int)) = false by rw [beq_eq_false_iff_ne]; omega, bc];have hs : slc Q (k : Int) ((k + w.length : Nat) : Int) = some w := by
  unfold slc;rw [if_pos (by omega), Int.toNat_natCast, Int.toNat_natCast, h, show k + w.length - k = w.length by omega, List.take_left'];rfl
 have hd2 := Mj hQ h
 have hb : (z.toNat : Int) ≠ 123 := fun hh => h123 (by
  apply UInt8.toNat_inj.1;show z.toNat = 123
  omega)
 rw [hs, ba, Q4 hQ hd2, ba, if_neg hb];rfl
theorem Wv {k m : Nat} {B : List By8} (h : Q.drop k = dg m ++ 93 :: B) (h1 : 1 <= m) (h61 : m <= 61) : Bk ⟨Q, (k : Int)⟩ (6 : Int) false = some (.inr ((m : Int), ⟨Q, ((k + (dg m).length : Nat) : Int)⟩)) := by
 have hl := Oi hQ h (by simp);rw [bk, bi] at hl;obtain ⟨f, hf⟩ : ∃ f, FUEL = f + 3 := ⟨FUEL - 3, by unfold FUEL; rfl⟩
 have at_ : ∀ (j : Nat) (c : By8), (dg m ++ 93 :: B)[j]? = some c -> idx Q ((k + j : Nat) : Int) = some c := fun j c hj => by
  rw [<- h, List.getElem?_drop] at hj;obtain ⟨h2, h3⟩ := List.getElem?_eq_some_iff.1 hj;rw [AI h2, h3]
 have turn : ∀ (rec : List By8 × Int × Int -> Option (List By8 × Int × Int)) (j d : Nat) (v : Int), (dg m ++ 93 :: B)[j]? = some (UInt8.ofNat (48 + d)) -> d <= 9 -> j <= 2 -> (j = 0 -> 1 <= d) -> 0 <= v -> v <= 100 ->
   BH ⟨Q, (k : Int)⟩ (6 : Int) false rec (Q, ((k + j : Nat) : Int), v) = rec (Q, ((k + (j + 1) : Nat) : Int), 10 * v + (d : Int)) := by
  intro rec j d v hj hd hj2 h0 hv1 hv2;have hi := at_ j _ hj;have hc : ((UInt8.ofNat (48 + d)).toNat : Int) = 48 + (d : Int) := by rw [UInt8.toNat_ofNat']; omega
  have hlt : k + j < Q.length := by
   have h3 := hj;rw [<- h, List.getElem?_drop] at h3;exact (List.getElem?_eq_some_iff.1 h3).1
  unfold BH;simp only [letJ];rw [w64 (x := (k : Int) + 6) (by omega) (by omega), bf (by omega), bb, bf (by omega), bb, hi];simp only [ba];rw [hc, bf (by omega), bb, bf (by omega), bb];have hw : IntKind.wrap .i64 (IntKind.wrap .u8 (48 + (d : Int) - 48)) = (d : Int) := by
   rw [show (48 : Int) + (d : Int) - 48 = (d : Int) by omega];have : ∀ k : Nat, k <= 9 -> IntKind.wrap .i64 (IntKind.wrap .u8 (k : Int)) = (k : Int) := by decide
   exact this d hd
  rw [hw, w64 (x := 10 * v) (by omega) (by omega), w64 (x := 10 * v + (d : Int)) (by omega) (by omega), w64 (x := ((k + j : Nat) : Int) + 1) (by omega) (by omega), show ((k + j : Nat) : Int) + 1 = ((k + (j + 1) : Nat) : Int) by omega];by_cases hz : j = 0
  ·have := h0 hz;rw [show ((48 : Int) + (d : Int) == (48 : Int)) = false by rw [beq_eq_false_iff_ne]; omega];cases (((k + j : Nat) : Int) == (k : Int)) <;> rfl
  ·rw [show (((k + j : Nat) : Int) == (k : Int)) = false by rw [beq_eq_false_iff_ne]; omega];rfl
 have stop : ∀ (rec : List By8 × Int × Int -> Option (List By8 × Int × Int)) (j : Nat) (v : Int), (dg m ++ 93 :: B)[j]? = some 93 -> j <= 2 -> BH ⟨Q, (k : Int)⟩ (6 : Int) false rec (Q, ((k + j : Nat) : Int), v) = some (Q, ((k + j : Nat) : Int), v) := by
  intro rec j v hj hj2;have hi := at_ j _ hj;have hlt : k + j < Q.length := by
   have h3 := hj;rw [<- h, List.getElem?_drop] at h3;exact (List.getElem?_eq_some_iff.1 h3).1
  unfold BH;simp only [letJ];rw [w64 (x := (k : Int) + 6) (by omega) (by omega), bf (by omega), bb, bf (by omega), bb, hi];rfl
 have key : iter (BH ⟨Q, (k : Int)⟩ (6 : Int) false) FUEL (Q, (k : Int), (0 : Int)) = some (Q, ((k + (dg m).length : Nat) : Int), (m : Int)) := by
  rw [hf];have st : (Q, (k : Int), (0 : Int)) = (Q, ((k + 0 : Nat) : Int), (0 : Int)) := rfl;rw [st, Dm];by_cases h10 : m < 10
  ·have ed : dg m = [UInt8.ofNat (48 + m)] := by unfold dg; rw [if_pos h10]
   rw [turn _ 0 m 0 (by rw [ed]; rfl) (by omega) (by omega) (fun _ => h1) (by omega) (by omega), Dm, stop _ 1 _ (by rw [ed]; rfl) (by omega), ed];simp
  ·have ed : dg m = [UInt8.ofNat (48 + m / 10), UInt8.ofNat (48 + m % 10)] := by unfold dg; rw [if_neg h10]
   rw [turn _ 0 (m / 10) 0 (by rw [ed]; rfl) (by omega) (by omega) (fun _ => by omega) (by omega) (by omega), Dm, turn _ 1 (m % 10) _ (by rw [ed]; rfl) (by omega) (by omega) (fun h => by omega) (by omega) (by omega), Dm, stop _ 2 _ (by rw [ed]; rfl) (by omega), ed];have : 10 * (10 * (0 : Int) + ((m / 10 : Nat) : Int)) + ((m % 10 : Nat) : Int) = (m : Int) := by omega
   rw [this]; rfl
 unfold Bk;simp only [letJ];rw [key, ba];have := RH m;simp only;rw [show ((((k + (dg m).length : Nat) : Int)) == (k : Int)) = false by rw [beq_eq_false_iff_ne]; omega, bc]
theorem Abb {k : Nat} {i : Int} {B : List By8} (h : Q.drop k = Kw i ++ B) (hi : 0 <= i /\ i <= 60) (hB : B = [] \/ ∃ C, B = 47 :: C) : BQ ⟨Q, (k : Int)⟩ = some (.inr (Jc i, ⟨Q, ((k + (Kw i).length : Nat) : Int)⟩)) := by
 have hT : Kw i ++ B = 47 :: (FG ++ 40 :: (41 :: 91 :: (dg (i.toNat + 1) ++ 93 :: B))) := by unfold Kw TK FG; simp
 rw [hT] at h;have h1 := (GW h).2.2;have h1' : Q.drop (k + 1) = 110 :: ([111, 100, 101] ++ 40 :: (41 :: 91 :: (dg (i.toNat + 1) ++ 93 :: B))) := h1;have hname := Aa1 hQ h1 (by decide) (fun c hc => SH hc) ⟨rfl, by decide⟩ (by decide);have h2 := Mj hQ h1;have h3 := (GW h2).2.2;have h4 := (GW h3).2.2;have h5 := (GW h4).2.2;have hdig := Wv hQ h5 (by omega) (by omega);have h6 := Mj hQ h5;have h7 := (GW h6).2.2;have hd0 : ∃ c t, Q.drop (k + 1 + FG.length + 1 + 1 + 1) = c :: t /\ (c.toNat : Int) ≠ 64 := by
  have hlen := RH (i.toNat + 1);rw [h5];unfold dg;split
  ·rename_i hlt;exact ⟨_, _, rfl, by rw [UInt8.toNat_ofNat']; omega⟩
  ·exact ⟨_, _, rfl, by rw [UInt8.toNat_ofNat']; omega⟩
 obtain ⟨c0, t0, hc0, hc64⟩ := hd0;have hcond : Bz ⟨Q, ((k + 1 + FG.length + 1 + 1 + 1 : Nat) : Int)⟩ = some (.inr (⟨91, i + 1, ⟨[], []⟩, [], (0, 0)⟩, ⟨Q, ((k + 1 + FG.length + 1 + 1 + 1 + (dg (i.toNat + 1)).length + 1 : Nat) : Int)⟩)) := by
  unfold Bz;simp only [letJ];rw [Q4 hQ hc0, ba, if_neg hc64];simp only [Bool.not_false, bb];rw [hdig, ba];show ((AV ⟨Q, ((k + 1 + FG.length + 1 + 1 + 1 + (dg (i.toNat + 1)).length : Nat) : Int)⟩ 93).bind _) = _;rw [Rz hQ h6 93 (by decide), ba, show ((i.toNat + 1 : Nat) : Int) = i + 1 by omega];rfl
 have hend : ∃ b, AK ⟨Q, ((k + 1 + FG.length + 1 + 1 + 1 + (dg (i.toNat + 1)).length + 1 : Nat) : Int)⟩ 91 = some (false, b) /\ b = ⟨Q, ((k + 1 + FG.length + 1 + 1 + 1 + (dg (i.toNat + 1)).length + 1 : Nat) : Int)⟩ := by
  rcases hB with rfl | ⟨C, rfl⟩
  ·have : k + 1 + FG.length + 1 + 1 + 1 + (dg (i.toNat + 1)).length + 1 = Q.length := by
    have := Oi hQ h6 (by simp);simp only [bi, bj] at this;omega
   rw [this];exact ⟨_, YU Q 91, rfl⟩
  ·exact ⟨_, by rw [Q4 hQ h7, if_neg (by decide)], rfl⟩
 obtain ⟨b, hmay, rfl⟩ := hend;have hloop : iter Cw FUEL (Q, ((k + 1 + FG.length + 1 + 1 : Nat) : Int), false, false, FG, ([] : List By8), FG, ([] : List Ae)) = some (.inl (false, false, FG, [], FG, [⟨91, i + 1, ⟨[], []⟩, [], (0, 0)⟩], Q, ((k + 1 + FG.length + 1 + 1 + 1 + (dg (i.toNat + 1)).length + 1 : Nat) : Int))) := by
  obtain ⟨f, hf⟩ : ∃ f, FUEL = f + 2 := ⟨FUEL - 2, by unfold FUEL; rfl⟩
  rw [hf, Dm]
  conv => lhs; unfold Cw
  dsimp only;rw [Q4 hQ h4, ba, if_pos (by decide)];dsimp only;rw [bb, hcond, ba];show ((app 80 ([] : List Ae) [(⟨91, i + 1, ⟨[], []⟩, [], (0, 0)⟩ : Ae)]).bind fun _ => iter Cw (f + 1) (Q, ((k + 1 + FG.length + 1 + 1 + 1 + (dg (i.toNat + 1)).length + 1 : Nat) : Int), false, false, FG, ([] : List By8), FG, [⟨91, i + 1, ⟨[], []⟩, [], (0, 0)⟩])) = _;rw [DL (by simp) (by simp), ba, Dm]
  conv => lhs; unfold Cw
  dsimp only;rw [hmay, ba]; rfl
 have hlen : k + 1 + FG.length + 1 + 1 + 1 + (dg (i.toNat + 1)).length + 1 = k + (Kw i).length := by
  unfold Kw TK FG;simp only [bk, bi, bj]; omega
 unfold BQ;rw [Rz hQ h 47 (by decide), ba];show ((AK ⟨Q, ((k + 1 : Nat) : Int)⟩ 47).bind _) = _;rw [Q4 hQ h1', ba, if_neg (by decide)];simp only [letJ, Bool.not_false, bb];rw [Q4 hQ h1', ba, if_neg (by decide)];simp only [bc];rw [Q4 hQ h1', ba, if_neg (by decide)];simp only [bc];rw [hname, ba];simp only [pnc];rw [Vf h2 40];have e1 : ((([] : List By8) == ([] : List By8)) && ((FG == FG) && true)) = true := by decide
 have e2 : ((((40 : By8).toNat : Int) == 40) && (((FG == ([116, 101, 120, 116] : List By8)) || (FG == ([99, 111, 109, 109, 101, 110, 116] : List By8))) || (FG == ([110, 111, 100, 101] : List By8)))) = true := by decide
 rw [e1, bb, ba, e2, bb, Rz hQ h2 40 (by decide), ba];simp only [pnc];rw [Rz hQ h3 41 (by decide), ba];simp only [pnc];rw [hloop, ba, <- hlen];rfl
end
theorem Aaq (p : List Int) (hs : Sm p) (h1 : 1 <= p.length) (h20 : p.length <= 20) : EO (EH p) = some (p.map Jc, 0, 0) := by
 have hlen := Pr p;have hQ : (EH p).length <= 8388608 := by omega
 have hdrop : ∀ i, i <= p.length -> (EH p).drop (EH (p.take i)).length = EH (p.drop i) := fun i hi => by
  have : EH p = EH (p.take i) ++ EH (p.drop i) := by unfold EH; rw [<- List.flatMap_append, List.take_append_drop]
  conv => lhs; rw [this]
  rw [List.drop_left]
 have hT : ∀ i (h : i < p.length), EH (p.take (i + 1)) = EH (p.take i) ++ Kw p[i] := fun i h => by
  unfold EH; rw [List.take_succ_eq_append_getElem h, List.flatMap_append]; simp
 have hst : ∀ j : Int, 0 < (Kw j).length := fun j => by unfold Kw TK; simp
 obtain ⟨o, e, rfl⟩ := Bf (b := Fe (EH p)) (fun i x => x = ((p.take i).map Jc, EH p, ((EH (p.take i)).length : Int))) (fun o => o = .inl (p.map Jc)) p.length (x0 := (([] : List Ai), EH p, (0 : Int))) rfl (by
  rintro i _ rec hi rfl;left;refine ⟨_, ?_, rfl⟩;have hl : (EH (p.take i)).length < (EH p).length := by
   have : EH p = EH (p.take i) ++ EH (p.drop i) := by unfold EH; rw [<- List.flatMap_append, List.take_append_drop]
   rw [this, bk, List.drop_eq_getElem_cons hi];have := hst p[i];unfold EH;rw [List.flatMap_cons, bk]; omega
  have hA : Sb ((p.take i).map Jc) = false := by
   by_cases h0 : i = 0
   ·subst h0; rfl
   ·obtain ⟨j, rfl⟩ : ∃ j, i = j + 1 := ⟨i - 1, by omega⟩
    rw [List.take_succ_eq_append_getElem (by omega : j < p.length), List.map_append];exact Sz _ _
  have hd := hdrop i (by omega);rw [List.drop_eq_getElem_cons hi] at hd;have hd' : (EH p).drop (EH (p.take i)).length = Kw p[i] ++ EH (p.drop (i + 1)) := hd;have hB : EH (p.drop (i + 1)) = [] \/ ∃ C, EH (p.drop (i + 1)) = 47 :: C := by
   cases p.drop (i + 1) with
   | nil => exact .inl rfl
   | cons a r => exact .inr ⟨_, rfl⟩
  rw [Pq _ _ _ _ _ (by rw [List.length_map, List.length_take]; omega), bf (by omega), Bool.or_true, bb, hA, bc, Abb hQ hd' (hs _ (bm hi)) hB, ba, hT i hi, bk, List.take_succ_eq_append_getElem hi, List.map_append]
  rfl) (by
  rintro _ rec rfl;refine ⟨_, ?_, rfl⟩;rw [List.take_length, Pq _ _ _ _ _ (by rw [List.length_map]; omega), bg (by omega)];have : (p.map Jc).isEmpty = false := by cases p with
   | nil => simp at h1
   | cons a r => rfl
  rw [this]; rfl) (n := FUEL) (by unfold FUEL; omega)
 unfold EO Gv;simp only [letJ];rw [e, ba];simp only;rw [bg (by rw [List.length_map]; omega), bc];rfl

set_option linter.unusedSimpArgs false
set_option linter.unusedVariables false
set_option maxRecDepth 100000
theorem WA (i : Int) (k : Ac) : Qr (Jc i) k = true := by
 have h := O1 (Jc i) k;have h2 : CM (Jc i) k = some true := rfl;rw [h2] at h;exact (Option.some.inj h).symm
theorem Sy {l : List Ak} {f : Ak -> Option Bool} (hl : l.length <= 1073741824) (h : ∀ x ∈ l, ∃ b, f x = some b) : ∃ z, AB l f = some z /\ (0 <= z -> ∃ i, ∃ hi : i < l.length, z = (i : Int)) := by
 unfold AB;simp only [letJ]
 obtain ⟨o, e, hR⟩ := Bf (b := AD l f) (fun i s => s = (i : Int)) (fun o => match o with | .inl _ => True | .inr z => ∃ i, ∃ hi : i < l.length, z = (i : Int)) l.length (x0 := (0 : Int)) rfl (by
  rintro i _ rec hi rfl;obtain ⟨b, hb⟩ := h _ (bm hi);unfold AD;rw [bf (by omega), bb, AI hi, ba, hb, ba]
  cases b with
  | true => exact .inr ⟨_, rfl, i, hi, rfl⟩
  | false => exact .inl ⟨((i + 1 : Nat) : Int), by rw [bc, Pk (by omega)], rfl⟩) (by
  rintro _ rec rfl;refine ⟨.inl (), ?_, trivial⟩;unfold AD
  rw [bg (by omega), bc]) (n := FUEL) (by unfold FUEL; omega)
 rw [e, ba]
 cases o with
 | inl u => exact ⟨_, rfl, fun h => absurd h (by decide)⟩
 | inr z => exact ⟨_, rfl, fun _ => hR⟩
theorem VL {N : Nat} (hN : N <= 1048576) {i : Int} (hi : 0 <= i /\ i <= 60) : OkS N (Jc i) := by
 refine ⟨fun c hc => ?_, by show 1 <= 1073741824; omega⟩;have hc' : c = ⟨91, i + 1, ⟨[], []⟩, [], (0, 0)⟩ := List.mem_singleton.1 hc;subst hc';refine ⟨fun n hn => ?_, fun _ => ⟨by show 1 <= i + 1; omega, by show i + 1 <= _; omega⟩⟩;have hl := DN n;obtain ⟨z, hz, hz2⟩ := Sy (l := n.Attrs) (f := fun z0 => Ed z0 ⟨91, i + 1, ⟨[], []⟩, [], (0, 0)⟩) (by omega) (fun x _ => ⟨_, rfl⟩);unfold Dw;rw [hz, ba];by_cases h0 : z < 0
 ·rw [bf h0]; exact ⟨_, rfl⟩
 ·obtain ⟨j, hj, rfl⟩ := hz2 (by omega)
  cases ((decide ((j : Int) < (0 : Int))) || (n.Kind != (2 : Int))) with
  | true => exact ⟨_, rfl⟩
  | false => rw [bc, AI hj]; exact ⟨_, rfl⟩
theorem Yj (i : Nat) (q : List Int) (x y : Ac) (h : x.Kids[i]? = some y) : O4 (Jc (i : Int)) [⟨q, x⟩] = [⟨q ++ [(i : Int)], y⟩] := by
 obtain ⟨hj, rfl⟩ := List.getElem?_eq_some_iff.1 h;have e1 : ofP (Jc (i : Int)) ⟨q, x⟩ = [⟨q ++ [(i : Int)], x.Kids[i]⟩] := by
  unfold ofP;have hf : ((Fu ⟨q, x⟩).filter fun k => Qr (Jc (i : Int)) k.node) = Fu ⟨q, x⟩ := List.filter_eq_self.2 fun k _ => WA _ _;rw [hf];show FU (Fu ⟨q, x⟩) ⟨91, (i : Int) + 1, ⟨[], []⟩, [], (0, 0)⟩ = _;unfold FU;rw [if_pos rfl];show ((G6 q 0 x.Kids).drop (((i : Int) + 1).toNat - 1)).take 1 = _;rw [show ((i : Int) + 1).toNat - 1 = i by omega];have hg := LO q x.Kids 0 i hj;rw [Nat.zero_add] at hg;obtain ⟨h1, h2⟩ := List.getElem?_eq_some_iff.1 hg;rw [List.drop_eq_getElem_cons h1, h2]; rfl
 show Ll FR (([⟨q, x⟩] : List Spt).flatMap (ofP (Jc (i : Int)))) = _;rw [List.flatMap_cons, List.flatMap_nil, List.append_nil, e1];rfl
theorem Pe : ∀ (p q : List Int) (x y : Ac), atP x p = some y -> Ng (p.map Jc) [⟨q, x⟩] = [trS ⟨q ++ p, y⟩]
 | [], q, x, y, h => by
  simp only [atP, Option.some.injEq] at h;subst h;show [trS ⟨q, x⟩] = _;rw [List.append_nil]
 | i :: p, q, x, y, h => by
  simp only [atP] at h;split at h
  ·cases h
  ·rename_i hi;obtain ⟨z, hz, h2⟩ := Option.bind_eq_some_iff.1 h;show Ng (p.map Jc) (O4 (Jc i) [⟨q, x⟩]) = _;have e := Yj i.toNat q x z hz;rw [show ((i.toNat : Nat) : Int) = i by omega] at e;rw [e, Pe p _ z y h2, List.append_assoc];rfl
theorem Pl : ∀ (l : List Ac), l.length <= (Ea l).length
 | [] => by simp [Ea]
 | x :: l => by
  have := Pl l;simp only [Ea, bk, bi, F2]; omega
theorem La {y : Ac} : ∀ (l : List Ac), y ∈ l -> (BE y).length <= (Ea l).length
 | [], h => by cases h
 | x :: l, h => by
  simp only [Ea, bk];rcases List.mem_cons.1 h with rfl | h
  ·omega
  ·have := La l h; omega
theorem Nv : ∀ (p : List Int) (x y : Ac), (BE x).length <= 61 -> atP x p = some y -> Sm p
 | [], _, _, _, _ => fun _ h => by cases h
 | i :: p, x, y, hx, h => by
  simp only [atP] at h;split at h
  ·cases h
  ·rename_i hi;obtain ⟨z, hz, h2⟩ := Option.bind_eq_some_iff.1 h;obtain ⟨hj, rfl⟩ := List.getElem?_eq_some_iff.1 hz;rw [F2, bi] at hx;have h3 := Pl x.Kids;have h4 := La x.Kids (bm hj);have ih := Nv p _ y (by omega) h2;intro k hk;rcases List.mem_cons.1 hk with rfl | hk
   ·omega
   ·exact ih k hk
theorem M6 (d : Ac) (hd : szN d <= 1048576) : C3 d = some true := by
 unfold C3;obtain ⟨r, hc, hg⟩ := NO d hd;rw [Zv, ba, Bool.not_true, bc, Uz d hd, hc, ba, Yb d hd];simp only [letJ, ba];by_cases hr : r = 0
 ·subst hr;simp only [bne_self_eq_false, bc];by_cases h61 : (BE d).length <= 61
  ·rw [bf (by omega), Bool.not_true, bc, Zg d hd, ba];have hpl := Jn d
   rw [HJ (Dk d) (fun _ => true) (b := BP d (Dk d)) (r := false) (by omega) (fun rec i h => by
    rw [if_pos rfl];obtain ⟨y, hy⟩ := Mo _ d _ (Nat.lt_succ_self _) (bm h);have hpl2 := OE _ _ _ hy;unfold BP;simp only [letJ];rw [bf (by omega), bb, AI h, ba, Pk (by omega)];by_cases h0 : (Dk d)[i].length = 0
    ·rw [show (((Dk d)[i].length : Int) == (0 : Int)) = true by rw [h0]; rfl, Bool.true_or, bb]
    ·by_cases h20 : 20 < (Dk d)[i].length
     ·rw [bf (show (20 : Int) < ((Dk d)[i].length : Int) by omega), Bool.or_true, bb]
     ·have hs := Nv _ _ _ h61 hy;rw [show (((Dk d)[i].length : Int) == (0 : Int)) = false by rw [beq_eq_false_iff_ne]; omega, bg (show ¬ (20 : Int) < ((Dk d)[i].length : Int) by omega), Bool.or_false, bc, Sl _ hs (by omega), ba];have hrd := Aaq _ hs (by omega) (by omega)
      have hpk := Yp hd _ _ hrd (fun st hst => by
       obtain ⟨k, hk, rfl⟩ := List.mem_map.1 hst
       exact VL hd (hs k hk)) (by rw [List.length_map]; omega)
      rw [if_neg (by simp), if_pos hc] at hpk;simp only at hpk;rw [Pe _ [] d y hy, List.nil_append] at hpk;rw [hpk, ba];show cond (((0 : Int) != (0 : Int)) || (((1 : Nat) : Int) != (1 : Int))) _ ((idx [trS ⟨(Dk d)[i], y⟩] (0 : Int)).bind _) = _;rw [show (((0 : Int) != (0 : Int)) || (((1 : Nat) : Int) != (1 : Int))) = false from rfl, bc, show idx [trS ⟨(Dk d)[i], y⟩] (0 : Int) = some (trS ⟨(Dk d)[i], y⟩) from rfl, ba];show cond false _ ((Bh (Dk d)[i] (Dk d)[i]).bind _) = _;rw [bc, Ty _ _ (by omega), ba, show ((Dk d)[i] == (Dk d)[i]) = true by simp]
      rfl) (fun rec => by
    unfold BP;simp only [letJ]
    rw [bg (by omega), bc]), ba]
   have : (Dk d).all (fun _ => true) = true := by simp
   rw [this]; rfl
  ·rw [bg (by omega)]; rfl
 ·rw [show (r != (0 : Int)) = true by simpa using hr]; rfl

set_option linter.unusedVariables false
theorem Lv (d : Ac) (h : szN d <= 1048576) (hp : Heap) : CallsA prog 4 [.agg (Ad d)] hp fun d _ => d = .bool true :=
 (GF d (G := fun b => b = true) hp ⟨true, M6 d h, rfl⟩).mono fun d h' ⟨r, hr, hd⟩ => by subst hr; exact hd

set_option linter.unusedVariables false
set_option maxRecDepth 100000
open Go.ChangeShapes Go.WideShapes Go.ChangeAt Go.RowKit Go.Lib
def M9 (x : Ac) : Prop := True
theorem JH {H : Type} {enc : TypeId × Value -> H} {w : World} {base : Nat} {held : Bool} : ∀ N : Nat, B.Rds N enc prog w base (fun _ => true) held 27 M9 Bl Ad
 | 0 => B.Rds.zero
 | N + 1 => B.rd_structS underlying27 (.cons (k := 1) rfl (by kernel_rfl) (B.rd_int underlying3) (.cons (k := 2) rfl (by kernel_rfl) (B.rd_struct underlying23 (.cons (k := 1) rfl (by kernel_rfl) (B.rd_str underlying9) (.cons (k := 1) rfl (by kernel_rfl) (B.rd_str underlying9) .nil)) (by kernel_rfl) (ok' := (fun x : Aa => ((fun s : List By8 => s.length <= 9223372036854775807)) x.URI /\ ((fun s : List By8 => s.length <= 9223372036854775807)) x.Local /\ True)) (sz' := (fun x : Aa => ((fun s : List By8 => s.length + 1) x.URI + ((fun s : List By8 => s.length + 1) x.Local + 0)) + 1)) (c' := Ar) (fun y => (⟨y.1, y.2.1⟩ : Aa)) (fun y h => ⟨h, rfl, rfl⟩)) (.cons (k := 1) rfl (by kernel_rfl) (B.rd_slice underlying24 (k := 3) (by kernel_rfl) (by decide) (fun _ _ => rfl) (B.rd_struct underlying56 (.cons (k := 2) rfl (by kernel_rfl) (B.rd_struct underlying23 (.cons (k := 1) rfl (by kernel_rfl) (B.rd_str underlying9) (.cons (k := 1) rfl (by kernel_rfl) (B.rd_str underlying9) .nil)) (by kernel_rfl) (ok' := (fun x : Aa => ((fun s : List By8 => s.length <= 9223372036854775807)) x.URI /\ ((fun s : List By8 => s.length <= 9223372036854775807)) x.Local /\ True)) (sz' := (fun x : Aa => ((fun s : List By8 => s.length + 1) x.URI + ((fun s : List By8 => s.length + 1) x.Local + 0)) + 1)) (c' := Ar) (fun y => (⟨y.1, y.2.1⟩ : Aa)) (fun y h => ⟨h, rfl, rfl⟩)) (.cons (k := 1) rfl (by kernel_rfl) (B.rd_str underlying9) .nil)) (by kernel_rfl) (ok' := (fun x : Ak => ((fun x : Aa => ((fun s : List By8 => s.length <= 9223372036854775807)) x.URI /\ ((fun s : List By8 => s.length <= 9223372036854775807)) x.Local /\ True)) x.Name /\ ((fun s : List By8 => s.length <= 9223372036854775807)) x.Value /\ True)) (sz' := (fun x : Ak => ((fun x : Aa => ((fun s : List By8 => s.length + 1) x.URI + ((fun s : List By8 => s.length + 1) x.Local + 0)) + 1) x.Name + ((fun s : List By8 => s.length + 1) x.Value + 0)) + 1)) (c' := Ao) (fun y => (⟨y.1, y.2.1⟩ : Ak)) (fun y h => ⟨h, rfl, rfl⟩))) (.cons (k := 1) rfl (by kernel_rfl) (B.rd_slice underlying25 (k := 6) (by kernel_rfl) (by decide) (fun y _ => by rw [Ab]; rfl) (JH N)) (.cons (k := 1) rfl (by kernel_rfl) (B.rd_str underlying9) .nil))))) (by kernel_rfl) (fun y => (⟨y.1, y.2.1, y.2.2.1, y.2.2.2.1, y.2.2.2.2.1⟩ : Ac)) (fun y h => ⟨trivial, by show Bl (⟨_, _, _, _, _⟩ : Ac) = _; rw [Bl, LC], by rw [Ab]; rfl⟩)
end Go.Proofs.YtmnbjcpikllknaaGreatDoor
