/- Canon: digits, what is escaped, what is put. No condition. -/
import Derived.Lib.ItoaLen
import Derived.Test.YtjofelloaofooaaGreatDoorX4
set_option linter.unusedSimpArgs false
set_option linter.unusedVariables false
namespace Go.Proofs.YtjofelloaofooaaGreatDoor
theorem W4 (v k : Nat) : Int.tmod (v : Int) (k : Int) = ((v % k : Nat) : Int) := by rw [Int.tmod_eq_emod_of_nonneg (by omega)]; rfl
theorem YL : ∀ q : Nat, q < 10 -> u8 (IntKind.wrap .u8 (IntKind.wrap .i64 ((48 : Int) + (q : Int)))) = some (UInt8.ofNat (48 + q))
 | 0, _ => rfl
 | 1, _ => rfl
 | 2, _ => rfl
 | 3, _ => rfl
 | 4, _ => rfl
 | 5, _ => rfl
 | 6, _ => rfl
 | 7, _ => rfl
 | 8, _ => rfl
 | 9, _ => rfl
 | q + 10, h => by omega
theorem R3 (u : Nat) (h : u <= 2097152) : (Lib.decDigits u).length <= 21 := by
 have := Lib.itoa_length_le (u : Int) (by omega) (by omega)
 rwa [Lib.itoa_nonneg] at this
theorem WN (u : Nat) (h1 : 1 <= u) (h : u <= 2097152) : CV (u : Int) = some (Lib.decDigits u) := by
 have hu := R3 u h;obtain ⟨o, h1, ht⟩ := AB (b := Cl)
  (fun i x => ∃ (v : Nat) (t : List By8), x = ((v : Int), t) /\ v + i <= u /\ (if v = 0 then t else Lib.decDigits v ++ t) = Lib.decDigits u)
  (fun o => o = Lib.decDigits u) u (x0 := ((u : Int), [])) ⟨u, [], rfl, by omega, by rw [if_neg (by omega)]; simp⟩
  (fun i x rec hi ⟨v, t, hx, hv, ht⟩ => by
   subst hx;unfold Cl;dsimp only;by_cases h9 : 0 < v
   ·left;rw [if_neg (by omega)] at ht;have hl : t.length <= 21 := by
     have := congrArg List.length ht;rw [bm] at this; omega
    refine ⟨(((v / 10 : Nat) : Int), [UInt8.ofNat (48 + v % 10)] ++ t), ?_, v / 10, _, rfl, by omega, ?_⟩
    ·rw [bf (by omega), bb, show Int.tmod (v : Int) 10 = ((v % 10 : Nat) : Int) from W4 v 10, YL _ (by omega), ba];have hc : cat [UInt8.ofNat (48 + v % 10)] t = some ([UInt8.ofNat (48 + v % 10)] ++ t) := by unfold cat; rw [if_pos (by simp; omega)]
     rw [hc, ba, show Int.tdiv (v : Int) 10 = ((v / 10 : Nat) : Int) by rw [Int.tdiv_eq_ediv_of_nonneg (by omega)]; simp, w64 (by omega) (by omega)]
    ·rw [<- ht];by_cases h10 : v < 10
     ·rw [if_pos (by omega)]
      conv => rhs; rw [Lib.decDigits, dif_pos h10]
      rw [Nat.mod_eq_of_lt h10]
     ·rw [if_neg (by omega)]
      conv => rhs; rw [Lib.decDigits, dif_neg h10]
      simp
   ·right;have hv0 : v = 0 := by omega
    subst hv0;refine ⟨t, ?_, by simpa using ht⟩
    rw [bg (by omega), bc])
  (fun x rec ⟨v, t, hx, hv, ht⟩ => ⟨t, by
   subst hx;unfold Cl;dsimp only;rw [bg (by omega), bc], by
   have hv0 : v = 0 := by omega
   subst hv0
   simpa using ht⟩) (n := FUEL) (by unfold FUEL; omega)
 unfold CV AA;dsimp only;rw [h1, ba, ht]
theorem Acb (p0 p1 : List By8) (p2 : List (List By8)) (i : Int) (c : By8) (h : idx p0 i = some c) : AH p0 p1 p2 i = AH [c] p1 p2 0 := by
 funext rec x;obtain ⟨a, b⟩ := x;unfold AH;have h0 : idx [c] (0 : Int) = some c := rfl;simp only [h, h0]
def spT : List By8 := [38, 60, 62, 13]
def reT : List (List By8) := [[38, 97, 109, 112, 59], [38, 108, 116, 59], [38, 103, 116, 59], [38, 35, 49, 51, 59], [], []]
def spQ : List By8 := [38, 60, 34, 9, 10, 13]
def reQ : List (List By8) := [[38, 97, 109, 112, 59], [38, 108, 116, 59], [38, 113, 117, 111, 116, 59], [38, 35, 57, 59], [38, 35, 49, 48, 59], [38, 35, 49, 51, 59]]
theorem Sq : ((List.range 256).all fun n => iter (AH [UInt8.ofNat n] spT reT 0) FUEL ([UInt8.ofNat n], (0 : Int)) == some (escT (UInt8.ofNat n))) = true := by kernel_rfl
theorem RY : ((List.range 256).all fun n => iter (AH [UInt8.ofNat n] spQ reQ 0) FUEL ([UInt8.ofNat n], (0 : Int)) == some (escQ (UInt8.ofNat n))) = true := by kernel_rfl
theorem RU (c : By8) : iter (AH [c] spT reT 0) FUEL ([c], (0 : Int)) = some (escT c) := by
 have := List.all_eq_true.1 Sq c.toNat (by simp; exact c.toNat_lt);simpa using this
theorem R1 (c : By8) : iter (AH [c] spQ reQ 0) FUEL ([c], (0 : Int)) = some (escQ c) := by
 have := List.all_eq_true.1 RY c.toNat (by simp; exact c.toNat_lt);simpa using this
theorem NO (c : By8) : (escT c).length <= 6 := by unfold escT; split <;> simp
theorem KF (c : By8) : (escQ c).length <= 6 := by unfold escQ; split <;> simp
theorem HQ {f : By8 -> List By8} (hf : ∀ c, (f c).length <= 6) : ∀ l : List By8, (l.flatMap f).length <= 6 * l.length
 | [] => by simp
 | c :: l => by have := HQ hf l; have := hf c; simp only [List.flatMap_cons, bm, bi]; omega
theorem Sr {l : List By8} {i : Nat} (h : i < l.length) (f : By8 -> List By8) : (l.take (i + 1)).flatMap f = (l.take i).flatMap f ++ f l[i] := by
 rw [List.take_add_one, List.getElem?_eq_getElem h]; simp only [Option.toList_some, List.flatMap_append, List.flatMap_cons, List.flatMap_nil, List.append_nil]
theorem Xj (p sp : List By8) (re : List (List By8)) (f : By8 -> List By8) (hf : ∀ c, (f c).length <= 6) (h1 : ∀ c, iter (AH [c] sp re 0) FUEL ([c], (0 : Int)) = some (f c)) (hp : p.length <= 1049600) :
  CN p sp re = some (p.flatMap f) := by
 obtain ⟨o, ho, hr⟩ := AB (b := B6 p sp re) (fun i x => x = ((p.take i).flatMap f, (i : Int))) (fun o => o = p.flatMap f) p.length (x0 := ([], (0 : Int))) (by simp)
  (fun i x rec hi hx => by
   subst hx;left;refine ⟨((p.take (i + 1)).flatMap f, ((i + 1 : Nat) : Int)), ?_, rfl⟩;have hs : slc p (i : Int) (IntKind.wrap .i64 ((i : Int) + 1)) = some [p[i]] := by
    rw [w64 (by omega) (by omega)];unfold slc;rw [if_pos (by omega)];have e1 : ((i : Int) + 1).toNat - (i : Int).toNat = 1 := by omega
    rw [e1, Int.toNat_natCast, List.drop_eq_getElem_cons hi]; rfl
   have hc := HQ hf (p.take i);have hc2 := hf p[i];have hl : (p.take i).length <= 1049600 := by rw [List.length_take]; omega
   unfold B6 AA;dsimp only;rw [bf (by omega), bb, hs, ba, Acb p sp re (i : Int) p[i] (Aq hi), h1, ba, EP (by omega), ba, Sr hi, w64 (by omega) (by omega)]
   rfl)
  (fun x rec hx => ⟨p.flatMap f, by
   subst hx;unfold B6;dsimp only
   rw [bg (by omega), bc, List.take_length], rfl⟩) (n := FUEL) (by unfold FUEL; omega)
 unfold CN AA;dsimp only;rw [ho, ba, hr]
theorem Xc (p : List By8) (hp : p.length <= 1049600) : Ej p = some (p.flatMap escT) := by
 unfold Ej;have := Xj p spT reT escT NO RU hp;unfold spT reT at this;rw [this]; rfl
theorem Qr (p : List By8) (hp : p.length <= 1049600) : Da p = some (p.flatMap escQ) := by
 unfold Da;have := Xj p spQ reQ escQ KF R1 hp;unfold spQ reQ at this;rw [this]; rfl
theorem VB (p : List By8) (hp : p.length <= 1049600) : L_referText p = some (p.flatMap escT) := by unfold L_referText; rw [if_pos (by omega)]
theorem PO (p : List By8) (hp : p.length <= 1049600) : L_referQuote p = some (p.flatMap escQ) := by unfold L_referQuote; rw [if_pos (by omega)]
theorem IG {n : Nat} (h : n <= 140737488355328) : gdL n = some () := by unfold gdL; rw [if_pos h]
theorem QM {l : List (List By8)} {i : Nat} (h : i < l.length) : (l.take (i + 1)).flatten = (l.take i).flatten ++ l[i] := by
 rw [List.take_add_one, List.getElem?_eq_getElem h]; simp only [Option.toList_some, List.flatten_append, List.flatten_cons, List.flatten_nil, List.append_nil]
theorem Uo (w : Ah) (L : List (List By8)) (hL : L.length <= 1000) (h : w.Builder.buf.length + L.flatten.length <= 140737488355328) : Au w L = some (w.Builder.buf ++ L.flatten) := by
 obtain ⟨o, ho, hr⟩ := AB (b := Ca L) (fun i x => x = (w.Builder.buf ++ (L.take i).flatten, (i : Int))) (fun o => o = w.Builder.buf ++ L.flatten) L.length (x0 := (w.Builder.buf, (0 : Int))) (by simp)
  (fun i x rec hi hx => by
   subst hx;left;refine ⟨(w.Builder.buf ++ (L.take (i + 1)).flatten, ((i + 1 : Nat) : Int)), ?_, rfl⟩;have hle : (L.take (i + 1)).flatten.length <= L.flatten.length := by
    have := congrArg (fun l => (List.flatten l).length) (List.take_append_drop (i + 1) L);simp only [List.flatten_append, bm] at this;omega
   rw [QM hi, bm] at hle;unfold Ca;dsimp only;rw [bf (by omega), bb, Aq hi, ba, IG (by rw [bm]; omega), ba, ba, QM hi, w64 (by omega) (by omega), List.append_assoc]
   rfl)
  (fun x rec hx => ⟨w.Builder.buf ++ L.flatten, by
   subst hx;unfold Ca;dsimp only
   rw [bg (by omega), bc, List.take_length], rfl⟩) (n := FUEL) (by unfold FUEL; omega)
 unfold Au;rw [ho, ba, hr]

set_option linter.unusedSimpArgs false
set_option linter.unusedVariables false
def K3 (s : List By8) : Bool := !(s == ([] : List By8))
def HZ (l : List Ae) : List (List By8) := (l.map fun a => a.Name.URI).filter K3
def JL (n : Aa) : List (List By8) := ([n.Name.URI] ++ n.Attrs.map fun a => a.Name.URI).filter K3
def Dy (p : Aa) : List (List By8) := (AE p).flatMap JL
def Gt (l : List Aa) : List (List By8) := (BJ l).flatMap JL
theorem Km (p : Aa) : Dy p = JL p ++ Gt p.Kids := by unfold Dy Gt; rw [Bn, List.flatMap_cons]
theorem Og {l : List Aa} {i : Nat} (h : i < l.length) : Gt (l.take (i + 1)) = Gt (l.take i) ++ Dy l[i] := by unfold Gt Dy; rw [H4 h, List.flatMap_append]
theorem RR (n : Aa) : JL n = (if K3 n.Name.URI then [n.Name.URI] else []) ++ HZ n.Attrs := by
 unfold JL HZ;rw [List.filter_append];congr 1;by_cases h : K3 n.Name.URI <;> simp [h]
theorem OB {l : List Ae} {i : Nat} (h : i < l.length) : HZ (l.take (i + 1)) = HZ (l.take i) ++ (if K3 l[i].Name.URI then [l[i].Name.URI] else []) := by
 unfold HZ;rw [List.take_add_one, List.getElem?_eq_getElem h, List.map_append, List.filter_append];congr 1;by_cases h : K3 l[i].Name.URI <;> simp [h]
theorem L9 (l : List Ae) : (HZ l).length <= l.length := by unfold HZ; exact Nat.le_trans (List.length_filter_le _ _) (by simp)
theorem QK (n : Aa) : (JL n).length <= 1 + n.Attrs.length := by unfold JL; exact Nat.le_trans (List.length_filter_le _ _) (by simp; omega)
theorem MD (x : Aa) : 1 + x.Attrs.length + FD x.Kids <= szN x := by
 cases x with
 | mk K N A Ks T =>
  have h := Ko (fun x : Ae => ((((x.Name.URI.length + 1) + ((x.Name.Local.length + 1) + 0)) + 1) + ((x.Value.length + 1) + 0)) + 1) (fun x => by omega) A;simp only [szN, Ax];omega
mutual
theorem Gz : ∀ x : Aa, (Dy x).length <= szN x
 | ⟨K, N, A, Kids, T⟩ => by
  have h1 := I2 Kids;have h2 := MD ⟨K, N, A, Kids, T⟩;have h3 := QK ⟨K, N, A, Kids, T⟩;rw [Km, bm];simp only at h2 h3 h1 ⊢;omega
theorem I2 : ∀ l : List Aa, (Gt l).length <= FD l
 | [] => by simp [Gt, BJ]
 | k :: l => by
  have h1 := Gz k;have h2 := I2 l;have e : Gt (k :: l) = Dy k ++ Gt l := by unfold Gt Dy; simp only [BJ, List.flatMap_append]
  rw [e, bm];simp only [FD];have : szN k = Ax k := rfl;omega
end
theorem Q9 {l : List Aa} {i : Nat} (hi : i < l.length) : FD (l.take i) + szN l[i] <= FD l := by
 have hs : ∀ (a b : List Aa), FD (a ++ b) = FD a + FD b := fun a b => by simp [HU]
 have e1 : l = l.take i ++ l[i] :: l.drop (i + 1) := by rw [<- List.drop_eq_getElem_cons hi, List.take_append_drop]
 have e2 : FD l = FD (l.take i) + (szN l[i] + FD (l.drop (i + 1))) := by
  conv => lhs; rw [e1]
  rw [hs]; rfl
 omega
theorem NG : ∀ (n : Nat) (p : Aa) (l : List (List By8)), szN p < n -> l.length + szN p <= 2097152 -> iter Bw n (p, l) = some (l ++ Dy p)
 | 0, p, l, h, _ => by omega
 | n + 1, p, l, h, hl => by
  have hk := D9 p;have ho := MD p;have ih := fun q m => NG n q m;rw [C4];generalize iter Bw n = rc at ih ⊢;unfold Bw;simp only [AA];have key : ∀ m : List (List By8), m = l ++ (if K3 p.Name.URI then [p.Name.URI] else []) -> ((iter (CT p) FUEL (m, (0 : Int))).bind fun o => (iter (CS p rc) FUEL (o, (0 : Int))).bind fun o => some o) = some (l ++ Dy p) := by
   intro m hm;have hml : m.length <= l.length + 1 := by subst hm; split <;> simp
   obtain ⟨o1, e1, hR1⟩ := AB (b := CT p) (fun i s => s = (m ++ HZ (p.Attrs.take i), (i : Int))) (fun o => o = m ++ HZ p.Attrs) p.Attrs.length (x0 := (m, (0 : Int))) (by simp [HZ]) (by
    rintro i _ rec hi rfl;left;have ha := L9 (p.Attrs.take i);have ha2 : (p.Attrs.take i).length <= p.Attrs.length := by simp; omega
    refine ⟨_, ?_, rfl⟩;unfold CT AA;dsimp only;rw [bf (by omega), bb, Aq hi, ba, OB hi, w64 (by omega) (by omega)];by_cases hf : K3 p.Attrs[i].Name.URI
    ·have hf' : (!(p.Attrs[i].Name.URI == ([] : List By8))) = true := hf;rw [hf', bb, F0 (by simp only [bm, bi, bj]; omega) (by simp only [bm, bi, bj]; omega), ba, ba, if_pos hf, List.append_assoc];rfl
    ·have hf' : (!(p.Attrs[i].Name.URI == ([] : List By8))) = false := by simpa [K3] using hf
     rw [hf', bc, if_neg hf, List.append_nil]
     rfl) (by
    rintro _ rec rfl;refine ⟨_, ?_, rfl⟩;unfold CT;dsimp only
    rw [bg (by omega), bc, List.take_length]) (n := FUEL) (by unfold FUEL; omega)
   rw [e1, ba, hR1];have hA := L9 p.Attrs
   obtain ⟨o, e, hR⟩ := AB (b := CS p rc) (fun i s => s = (m ++ HZ p.Attrs ++ Gt (p.Kids.take i), (i : Int))) (fun o => o = m ++ HZ p.Attrs ++ Gt p.Kids) p.Kids.length (x0 := (m ++ HZ p.Attrs, (0 : Int))) (by simp [Gt, BJ]) (by
    rintro i _ rec hi rfl;left;have h1 := Q9 hi;have h2 := I2 (p.Kids.take i);refine ⟨_, ?_, rfl⟩;unfold CS;dsimp only;rw [bf (by have := BI p; omega), bb, Aq hi, ba, ih p.Kids[i] _ (by omega) (by simp only [bm]; omega), ba, w64 (by have := BI p; omega) (by have := BI p; omega), Og hi, List.append_assoc (m ++ HZ p.Attrs)]
    rfl) (by
    rintro _ rec rfl;refine ⟨_, ?_, rfl⟩;unfold CS;dsimp only
    rw [bg (by omega), bc, List.take_length]) (n := FUEL) (by have := BI p; unfold FUEL; omega)
   rw [e, ba, hR, Km, RR, hm];simp only [List.append_assoc]
  by_cases hf : K3 p.Name.URI
  ·have hf' : (!(p.Name.URI == ([] : List By8))) = true := hf;rw [hf', bb, F0 (by simp only [bi, bj]; omega) (by simp only [bi, bj]; omega), ba, ba];exact key _ (by rw [if_pos hf])
  ·have hf' : (!(p.Name.URI == ([] : List By8))) = false := by simpa [K3] using hf
   rw [hf', bc];exact key _ (by rw [if_neg hf, List.append_nil])
theorem RJ (p : Aa) (h : szN p <= 1049600) : Dq p = some (Lib.compact (Gn (Dy p))) := by
 have hl := Gz p;have e : DW p [] = some (Dy p) := by
  unfold DW;have := NG FUEL p [] (by unfold FUEL; omega) (by simp; omega);simpa using this
 unfold Dq;rw [e, ba, IG (by omega), ba, ba, IG (by rw [IA]; omega), ba, ba]

set_option linter.unusedSimpArgs false
set_option linter.unusedVariables false
theorem Gw : ∀ {a b : List By8}, Ev a b = 0 -> a = b
 | [], [], _ => rfl
 | [], _ :: _, h => by simp [Ev] at h
 | _ :: _, [], h => by simp [Ev] at h
 | a :: x, b :: y, h => by
  unfold Ev at h;split at h
  ·exact absurd h (by assumption)
  ·rename_i h1;have e := Pj (a := a.toNat) (b := b.toNat) (by omega);have e1 : a = b := UInt8.toNat_inj.1 (by omega);rw [e1, Gw h]
theorem IJ (a b : List By8) : Op.bytesLess a b = decide (Ev a b < 0) := by
 have h := HS a b;have r := Dc.rng a b;by_cases h1 : Op.bytesLess a b = true
 ·rw [if_pos h1] at h;rw [h1, <- h]; rfl
 ·have h1' : Op.bytesLess a b = false := by simpa using h1
  rw [if_neg h1] at h;rw [h1'];have : ¬ Ev a b < 0 := by rw [<- h]; split <;> simp
  simp [this]
theorem NN (a b : List By8) : decide (a <= b) = decide (Ev a b <= 0) := by
 have h1 := IJ b a;rw [bytesLess_eq] at h1;have h2 := Dc.anti a b;have h3 : (b < a) ↔ Ev b a < 0 := by simpa using h1
 have h4 : (a <= b) ↔ ¬ (b < a) := List.not_lt.symm;by_cases h : Ev a b <= 0
 ·rw [bf h, bf (h4.2 (fun hc => by have := h3.1 hc; omega))]
 ·rw [bg h, bg (fun hc => h4.1 hc (h3.2 (by omega)))]
def SS (l : List (List By8)) : Prop := l.Pairwise fun a b => Ev a b < 0
theorem V4 {a b c : List By8} (h1 : Ev a b < 0) (h2 : Ev b c <= 0) : Ev a c < 0 := by
 have h := Dc.trans a b c (by omega) h2;rcases Int.lt_or_eq_of_le h with h | h
 ·exact h
 ·have e := Gw h;subst e;have := Dc.anti a b;omega
theorem Yt {a b c : List By8} (h1 : Ev a b <= 0) (h2 : Ev b c < 0) : Ev a c < 0 := by
 have h := Dc.trans a b c h1 (by omega);rcases Int.lt_or_eq_of_le h with h | h
 ·exact h
 ·have e := Gw h;subst e;have := Dc.anti a b;omega
theorem T5 {a b : List By8} (h : Ev a b < 0) : a ≠ b := fun e => by subst e; have := Dc.refl a; omega
theorem Wq : ∀ {l m : List (List By8)}, SS l -> SS m -> (∀ x, x ∈ l ↔ x ∈ m) -> l = m
 | [], [], _, _, _ => rfl
 | [], y :: m, _, _, h => by have := (h y).2 List.mem_cons_self; cases this
 | x :: l, [], _, _, h => by have := (h x).1 List.mem_cons_self; cases this
 | x :: l, y :: m, h1, h2, h => by
  obtain ⟨a1, a2⟩ := List.pairwise_cons.1 h1;obtain ⟨b1, b2⟩ := List.pairwise_cons.1 h2;have hxy : x = y := by
   rcases List.mem_cons.1 ((h x).1 List.mem_cons_self) with e | e
   ·exact e
   ·rcases List.mem_cons.1 ((h y).2 List.mem_cons_self) with e' | e'
    ·exact e'.symm
    ·have c1 := b1 x e;have c2 := a1 y e';have := Dc.anti x y;omega
  subst hxy;rw [Wq a2 b2 fun z => ⟨fun hz => ?_, fun hz => ?_⟩]
  ·rcases List.mem_cons.1 ((h z).1 (List.mem_cons_of_mem _ hz)) with e | e
   ·exact absurd e (fun e => T5 (a1 z hz) e.symm)
   ·exact e
  ·rcases List.mem_cons.1 ((h z).2 (List.mem_cons_of_mem _ hz)) with e | e
   ·exact absurd e (fun e => T5 (b1 z hz) e.symm)
   ·exact e
theorem Ll (d : Array (List By8)) (hd : ∀ i j, i <= j -> j < d.size -> Ev d[i]! d[j]! <= 0) : ∀ m, m <= d.size -> SS (Lib.compactUpTo d m) /\ ∀ x, x ∈ Lib.compactUpTo d m ↔ ∃ j, j < m /\ d[j]! = x
 | 0, _ => ⟨by unfold Lib.compactUpTo; exact .nil, fun x => by unfold Lib.compactUpTo; simp⟩
 | m + 1, hm => by
  obtain ⟨h1, h2⟩ := Ll d hd m (by omega);rw [Lib.compactUpTo_succ];by_cases hk : Lib.keeps d m = true
  ·rw [if_pos hk];refine ⟨List.pairwise_append.2 ⟨h1, List.pairwise_singleton _ _, fun a ha b hb => ?_⟩, fun x => ?_⟩
   ·rw [List.mem_singleton] at hb;subst hb;obtain ⟨j, hj, rfl⟩ := (h2 a).1 ha;have hk' : m = 0 \/ d[m]! ≠ d[m - 1]! := by unfold Lib.keeps at hk; exact of_decide_eq_true hk
    have hk2 : d[m]! ≠ d[m - 1]! := hk'.resolve_left (by omega);have c1 := hd (m - 1) m (by omega) (by omega);have c2 := hd j (m - 1) (by omega) (by omega);refine Yt c2 ?_;rcases Int.lt_or_eq_of_le c1 with h | h
    ·exact h
    ·exact absurd (Gw h).symm hk2
   ·rw [List.mem_append, List.mem_singleton, h2];constructor
    ·rintro (⟨j, hj, e⟩ | e)
     ·exact ⟨j, by omega, e⟩
     ·exact ⟨m, by omega, e.symm⟩
    ·rintro ⟨j, hj, e⟩;by_cases e' : j = m
     ·subst e'; exact .inr e.symm
     ·exact .inl ⟨j, by omega, e⟩
  ·rw [if_neg hk, List.append_nil];refine ⟨h1, fun x => ?_⟩;rw [h2];have hk' : ¬ (m = 0 \/ d[m]! ≠ d[m - 1]!) := by unfold Lib.keeps at hk; exact fun h => hk (bf h)
   have hk2 : d[m]! = d[m - 1]! := Classical.byContradiction fun h => hk' (.inr h);have hk3 : m ≠ 0 := fun h => hk' (.inl h);constructor
   ·rintro ⟨j, hj, e⟩; exact ⟨j, by omega, e⟩
   ·rintro ⟨j, hj, e⟩;by_cases e' : j = m
    ·subst e'; exact ⟨j - 1, by omega, by rw [<- e, hk2]⟩
    ·exact ⟨j, by omega, e⟩
theorem P9 (l : List (List By8)) : (Gn l).Pairwise fun a b => Ev a b <= 0 := by
 have h := List.pairwise_mergeSort (le := fun x y : List By8 => decide (x <= y)) (fun a b c h1 h2 => by
  rw [NN] at h1 h2 ⊢
  exact bf (Dc.trans a b c (of_decide_eq_true h1) (of_decide_eq_true h2))) (fun a b => by
  rw [NN, NN];have := Dc.anti a b;by_cases hc : Ev a b <= 0
  ·simp [hc]
  ·have : Ev b a <= 0 := by omega
   simp [this]) l
 exact h.imp fun {a b} h => by
  have h' : decide (a <= b) = true := h;rw [NN] at h';exact of_decide_eq_true h'
theorem Kk (l : List (List By8)) : SS (Lib.compact (Gn l)) /\ ∀ x, x ∈ Lib.compact (Gn l) ↔ x ∈ l := by
 have hp := P9 l
 have h := Ll (Gn l).toArray (fun i j hij hj => by
  have hj' : j < (Gn l).length := by simpa using hj
  have e1 : (Gn l).toArray[i]! = (Gn l)[i] := by rw [getElem!_pos _ i (by simp; omega)]; simp
  have e2 : (Gn l).toArray[j]! = (Gn l)[j] := by rw [getElem!_pos _ j (by simpa using hj')]; simp
  rw [e1, e2];by_cases e : i = j
  ·subst e; have := Dc.refl (Gn l)[i]; omega
  ·exact List.pairwise_iff_getElem.1 hp i j (by omega) hj' (by omega)) (Gn l).length (by simp)
 refine ⟨h.1, fun x => ?_⟩;show x ∈ Lib.compactUpTo (Gn l).toArray (Gn l).length ↔ _;rw [h.2];have hm : x ∈ Gn l ↔ x ∈ l := by unfold Gn; exact List.mem_mergeSort
 rw [<- hm, List.mem_iff_getElem];constructor
 ·rintro ⟨j, hj, e⟩;refine ⟨j, hj, ?_⟩;rw [<- e, getElem!_pos _ j (by simpa using hj)]; simp
 ·rintro ⟨j, hj, e⟩;refine ⟨j, hj, ?_⟩;rw [<- e, getElem!_pos _ j (by simpa using hj)]; simp
def MK (x : List By8) : List (List By8) -> List (List By8)
 | [] => [x]
 | y :: l => if Ev y x < 0 then y :: MK x l else if y = x then y :: l else x :: y :: l
theorem K7 (x : List By8) : ∀ (l : List (List By8)) (z : List By8), z ∈ MK x l ↔ z = x \/ z ∈ l
 | [], z => by simp [MK]
 | y :: l, z => by
  unfold MK;split
  ·rw [List.mem_cons, K7 x l z, List.mem_cons];constructor
   ·rintro (h | h | h) <;> simp [h]
   ·rintro (h | h | h) <;> simp [h]
  ·split
   ·rename_i h; subst h;rw [List.mem_cons];constructor
    ·exact .inr
    ·rintro (h | h)
     ·exact .inl h
     ·exact h
   ·rw [List.mem_cons]
theorem QJ (x : List By8) : ∀ (l : List (List By8)), SS l -> SS (MK x l)
 | [], _ => List.pairwise_singleton _ _
 | y :: l, h => by
  obtain ⟨h1, h2⟩ := List.pairwise_cons.1 h;unfold MK;split
  ·rename_i hc;refine .cons (fun z hz => ?_) (QJ x l h2);rcases (K7 x l z).1 hz with e | e
   ·subst e; exact hc
   ·exact h1 z e
  ·rename_i hc;split
   ·exact h
   ·rename_i hne;have hxy : Ev x y < 0 := by
     have a := Dc.anti y x;rcases Int.lt_or_eq_of_le (show Ev x y <= 0 by omega) with h | h
     ·exact h
     ·exact absurd (Gw h).symm hne
    refine .cons (fun z hz => ?_) h;rcases List.mem_cons.1 hz with e | e
    ·subst e; exact hxy
    ·exact V4 hxy (by have := h1 z e; omega)
theorem NB (x : List By8) : ∀ l : List (List By8), (MK x l).length <= l.length + 1
 | [] => by simp [MK]
 | y :: l => by
  unfold MK;split
  ·have := NB x l; simp only [bi]; omega
  ·split <;> simp
def DA (x : List By8) : List (List By8) -> Nat
 | [] => 0
 | y :: l => if Ev y x < 0 then DA x l + 1 else 0
theorem Hw (x : List By8) : ∀ l : List (List By8), DA x l <= l.length
 | [] => by simp [DA]
 | y :: l => by
  unfold DA;split
  ·have := Hw x l; simp only [bi]; omega
  ·exact Nat.zero_le _
theorem Jk (x : List By8) : ∀ (l : List (List By8)) (i : Nat) (h : i < l.length), i < DA x l -> Ev l[i] x < 0
 | y :: l, 0, h, hi => by
  unfold DA at hi;split at hi
  ·assumption
  ·omega
 | y :: l, i + 1, h, hi => by
  unfold DA at hi;split at hi
  ·exact Jk x l i (by simpa using h) (by omega)
  ·omega
theorem Ku (x : List By8) : ∀ (l : List (List By8)) (h : DA x l < l.length), ¬ Ev l[DA x l] x < 0
 | y :: l, h => by
  by_cases hc : Ev y x < 0
  ·have e : DA x (y :: l) = DA x l + 1 := by rw [DA, if_pos hc]
   have h' : DA x l < l.length := by rw [e] at h; simpa using h
   have := Ku x l h';simpa only [e, List.getElem_cons_succ] using this
  ·have e : DA x (y :: l) = 0 := by rw [DA, if_neg hc]
   simpa only [e, List.getElem_cons_zero] using hc
theorem NW (x : List By8) : ∀ l : List (List By8), MK x l = if h : DA x l < l.length then (if l[DA x l] = x then l else l.take (DA x l) ++ [x] ++ l.drop (DA x l)) else l.take (DA x l) ++ [x] ++ l.drop (DA x l)
 | [] => by simp [MK, DA]
 | y :: l => by
  have ih := NW x l;by_cases hc : Ev y x < 0
  ·have e : DA x (y :: l) = DA x l + 1 := by rw [DA, if_pos hc]
   rw [MK, if_pos hc, ih];by_cases hl : DA x l < l.length
   ·rw [dif_pos hl, dif_pos (by rw [e]; simpa using hl)];simp only [e, List.getElem_cons_succ, List.take_succ_cons, List.drop_succ_cons];split <;> rfl
   ·rw [dif_neg hl, dif_neg (by rw [e]; simpa using hl)];simp only [e, List.take_succ_cons, List.drop_succ_cons];rfl
  ·have e : DA x (y :: l) = 0 := by rw [DA, if_neg hc]
   rw [MK, if_neg hc, dif_pos (by rw [e]; simp)];simp only [e, List.getElem_cons_zero, List.take_zero, List.drop_zero, List.nil_append];rfl

set_option linter.unusedSimpArgs false
set_option linter.unusedVariables false
def Lg (n : Aa) : List (List By8) := [n.Name.URI] ++ n.Attrs.map fun a => a.Name.URI
def Ft (l : List (List By8)) (x : List By8) : List (List By8) := if K3 x then MK x l else l
theorem PW (l : List (List By8)) (x : List By8) : (Ft l x).length <= l.length + 1 := by
 unfold Ft;split
 ·exact NB x l
 ·omega
theorem KP : ∀ (xs l : List (List By8)), (xs.foldl Ft l).length <= l.length + xs.length
 | [], l => by simp
 | x :: xs, l => by have := KP xs (Ft l x); have := PW l x; simp only [List.foldl_cons, bi]; omega
theorem Q4 : ∀ (xs l : List (List By8)), SS l -> SS (xs.foldl Ft l)
 | [], l, h => h
 | x :: xs, l, h => Q4 xs _ (by unfold Ft; split; exact QJ x l h; exact h)
theorem Ni : ∀ (xs l : List (List By8)) (z : List By8), z ∈ xs.foldl Ft l ↔ z ∈ l \/ z ∈ xs.filter K3
 | [], l, z => by simp
 | x :: xs, l, z => by
  rw [List.foldl_cons, Ni xs, List.filter_cons];unfold Ft;by_cases h : K3 x
  ·rw [if_pos h, if_pos h, K7, List.mem_cons];constructor
   ·rintro ((h | h) | h) <;> simp [h]
   ·rintro (h | h | h) <;> simp [h]
  ·rw [if_neg h, if_neg h]
theorem Gb {α : Type} {l : List α} {i : Nat} (h : i < l.length) : l.take (i + 1) = l.take i ++ [l[i]] := by
 rw [List.take_add_one, List.getElem?_eq_getElem h]; simp only [Option.toList_some]
theorem Aao (a : List (List By8)) (x : List By8) (ha : a.length <= 4194304) : iter (BH a x) FUEL (0 : Int) = some (DA x a : Int) := by
 obtain ⟨o, ho, hr⟩ := AB (b := BH a x) (fun i s => s = (i : Int) /\ i <= DA x a) (fun o => o = (DA x a : Int)) (DA x a) (x0 := (0 : Int)) ⟨rfl, by omega⟩
  (fun i s rec hi ⟨hs, hp⟩ => by
   subst hs;left;have hl := Hw x a;have hlt : i < a.length := by omega
   refine ⟨((i + 1 : Nat) : Int), ?_, rfl, by omega⟩;unfold BH AA;dsimp only;rw [bf (by omega), bb, Aq hlt, ba, IJ, bf (Jk x a i hlt hi), bb, w64 (by omega) (by omega)]
   rfl)
  (fun s rec ⟨hs, hp⟩ => ⟨(DA x a : Int), by
   subst hs;unfold BH AA;dsimp only;by_cases hlt : DA x a < a.length
   ·rw [bf (by omega), bb, Aq hlt, ba, IJ, bg (Ku x a hlt), bc]
   ·rw [bg (by omega), bc, bc], rfl⟩) (n := FUEL) (by have := Hw x a; unfold FUEL; omega)
 rw [ho, hr]
theorem Aau (xs a : List (List By8)) (h : a.length + xs.length <= 2097152) : iter (BF xs) FUEL (a, (0 : Int)) = some (xs.foldl Ft a) := by
 obtain ⟨o, ho, hr⟩ := AB (b := BF xs) (fun i s => s = ((xs.take i).foldl Ft a, (i : Int))) (fun o => o = xs.foldl Ft a) xs.length (x0 := (a, (0 : Int))) (by simp)
  (fun i s rec hi hs => by
   subst hs;left;have hl := KP (xs.take i) a;have hl2 : (xs.take i).length <= xs.length := by simp; omega
   refine ⟨((xs.take (i + 1)).foldl Ft a, ((i + 1 : Nat) : Int)), ?_, rfl⟩;rw [Gb hi, List.foldl_append, List.foldl_cons, List.foldl_nil];generalize (xs.take i).foldl Ft a = m at hl;have hp := Hw xs[i] m;unfold BF AA;dsimp only;rw [bf (by omega), bb, Aq hi, ba, Aao m xs[i] (by omega), ba, w64 (by omega) (by omega)];by_cases hf : K3 xs[i]
   ·have hf' : (!(xs[i] == ([] : List By8))) = true := hf;rw [hf', bb];have hs1 : slc m (0 : Int) (DA xs[i] m : Int) = some (m.take (DA xs[i] m)) := R4 hp;have hs2 : slc m (DA xs[i] m : Int) (m.length : Int) = some (m.drop (DA xs[i] m)) := F9 hp;have hap : ∀ (u v : List (List By8)), u.length + v.length <= 4194304 -> app 16 u v = some (u ++ v) := fun u v huv => F0 (by omega) (by omega)
    have hins : ∀ q : List (List By8) -> Option (List (List By8)), ((slc m (0 : Int) (DA xs[i] m : Int)).bind fun x343 =>
      (slc m (DA xs[i] m : Int) (m.length : Int)).bind fun x344 =>
      (app 16 ([] : List (List By8)) x343).bind fun _ =>
      (app 16 (([] : List (List By8)) ++ x343) [xs[i]]).bind fun _ =>
      (app 16 ((([] : List (List By8)) ++ x343) ++ [xs[i]]) x344).bind fun _ =>
      q (((([] : List (List By8)) ++ x343) ++ [xs[i]]) ++ x344)) = q (m.take (DA xs[i] m) ++ [xs[i]] ++ m.drop (DA xs[i] m)) := fun q => by
     rw [hs1, ba, hs2, ba, hap _ _ (by simp; omega), ba, hap _ _ (by simp; omega), ba, hap _ _ (by simp; omega), ba, List.nil_append]
    have hstep : Ft m xs[i] = MK xs[i] m := by unfold Ft; rw [if_pos hf]
    rw [hstep, NW];by_cases hlt : DA xs[i] m < m.length
    ·have hne : ((DA xs[i] m : Int) == (m.length : Int)) = false := by simp; omega
     rw [hne, bc, Aq hlt, ba, dif_pos hlt];by_cases he : m[DA xs[i] m] = xs[i]
     ·rw [if_pos he, he];have hb : (!(xs[i] == xs[i])) = false := by simp
      rw [hb, bc];rfl
     ·rw [if_neg he];have hb : (!(m[DA xs[i] m] == xs[i])) = true := by simp [he]
      rw [hb, bb];exact hins fun z => rec (z, (i : Int) + 1)
    ·have hne : ((DA xs[i] m : Int) == (m.length : Int)) = true := by simp; omega
     rw [hne, bb, bb, dif_neg hlt];exact hins fun z => rec (z, (i : Int) + 1)
   ·have hf' : (!(xs[i] == ([] : List By8))) = false := by simpa [K3] using hf
    rw [hf', bc, bc];have hstep : Ft m xs[i] = m := by unfold Ft; rw [if_neg hf]
    rw [hstep]
    rfl)
  (fun s rec hs => ⟨xs.foldl Ft a, by
   subst hs;unfold BF;dsimp only
   rw [bg (by omega), bc, List.take_length], rfl⟩) (n := FUEL) (by unfold FUEL; omega)
 rw [ho, hr]
theorem Abt (n : Aa) (h : n.Attrs.length <= 1049600) : iter (BG n) FUEL ([n.Name.URI], (0 : Int)) = some (Lg n) := by
 obtain ⟨o, ho, hr⟩ := AB (b := BG n) (fun i s => s = ([n.Name.URI] ++ (n.Attrs.take i).map (fun a => a.Name.URI), (i : Int))) (fun o => o = Lg n) n.Attrs.length (x0 := ([n.Name.URI], (0 : Int))) (by simp)
  (fun i s rec hi hs => by
   subst hs;left;refine ⟨([n.Name.URI] ++ (n.Attrs.take (i + 1)).map (fun a => a.Name.URI), ((i + 1 : Nat) : Int)), ?_, rfl⟩;rw [Gb hi, List.map_append];unfold BG;dsimp only;rw [bf (by omega), bb, Aq hi, ba, F0 (by simp; omega) (by simp; omega), ba, w64 (by omega) (by omega), List.append_assoc]
   rfl)
  (fun s rec hs => ⟨Lg n, by
   subst hs;unfold BG Lg;dsimp only
   rw [bg (by omega), bc, List.take_length], rfl⟩) (n := FUEL) (by unfold FUEL; omega)
 rw [ho, hr]
mutual
theorem N6 : ∀ x : Aa, ((AE x).flatMap Lg).length <= szN x
 | ⟨K, N, A, Kids, T⟩ => by
  have h1 := NR Kids;have h2 := MD ⟨K, N, A, Kids, T⟩;rw [Bn, List.flatMap_cons, bm];have h3 : (Lg ⟨K, N, A, Kids, T⟩).length = 1 + A.length := by unfold Lg; simp; omega
  simp only at h2 h1 ⊢;omega
theorem NR : ∀ l : List Aa, ((BJ l).flatMap Lg).length <= FD l
 | [] => by simp [BJ]
 | k :: l => by
  have h1 := N6 k;have h2 := NR l;simp only [BJ, FD, List.flatMap_append, bm];have : szN k = Ax k := rfl;omega
end
theorem RM (p : Aa) (h : szN p <= 1049600) : DO p = some (Lib.compact (Gn (Dy p))) := by
 have hraw := N6 p;have hfl := FX p;have hsz := Gc p;have hres : ((AE p).flatMap Lg).foldl Ft [] = Lib.compact (Gn (Dy p)) := by
  obtain ⟨h1, h2⟩ := Kk (Dy p);refine Wq (Q4 _ _ .nil) h1 fun z => ?_;rw [h2, Ni];have : (List.flatMap Lg (AE p)).filter K3 = Dy p := by
   unfold Dy;rw [List.filter_flatMap];rfl
  rw [this];simp
 obtain ⟨o, ho, hr⟩ := AB (b := Cm (AE p)) (fun i s => s = ((((AE p).take i).flatMap Lg).foldl Ft [], (i : Int))) (fun o => o = ((AE p).flatMap Lg).foldl Ft []) (AE p).length (x0 := ([], (0 : Int))) (by simp)
  (fun i s rec hi hs => by
   subst hs;left;refine ⟨(((((AE p).take (i + 1)).flatMap Lg).foldl Ft []), ((i + 1 : Nat) : Int)), ?_, rfl⟩;have hz := hsz _ (bn hi);have hat := Ct (AE p)[i];have hle : (((AE p).take (i + 1)).flatMap Lg).length <= ((AE p).flatMap Lg).length := by
    have e := congrArg (fun l => (List.flatMap Lg l).length) (List.take_append_drop (i + 1) (AE p));simp only [List.flatMap_append, bm] at e;omega
   rw [Gb hi, List.flatMap_append, bm, List.flatMap_cons, List.flatMap_nil, List.append_nil] at hle;rw [Gb hi, List.flatMap_append, List.flatMap_cons, List.flatMap_nil, List.append_nil, List.foldl_append];have hl := KP (((AE p).take i).flatMap Lg) [];unfold Cm AA;dsimp only;rw [bf (by omega), bb, Aq hi, ba, Abt _ (by omega), ba, Aau _ _ (by simp only [bj] at hl; omega), ba, w64 (by omega) (by omega)]
   rfl)
  (fun s rec hs => ⟨((AE p).flatMap Lg).foldl Ft [], by
   subst hs;unfold Cm;dsimp only
   rw [bg (by omega), bc, List.take_length], rfl⟩) (n := FUEL) (by unfold FUEL; omega)
 unfold DO AA;dsimp only;rw [Sy p h, ba, ho, ba, hr, hres]

set_option linter.unusedSimpArgs false
set_option linter.unusedVariables false
set_option maxRecDepth 20000
theorem Wo {l : List (List By8)} {f : List By8 -> Option Bool} (hl : l.length <= 1073741824) (h : ∀ x ∈ l, ∃ b, f x = some b) : (AN l f = some (-1) /\ l.any (gB f) = false) \/
  ∃ i, ∃ hi : i < l.length, AN l f = some (i : Int) /\ gB f l[i] = true /\ (l.take i).any (gB f) = false := by
 unfold AN;simp only [AA]
 obtain ⟨o, e, hR⟩ := AB (b := AW l f) (fun i s => s = (i : Int) /\ (l.take i).any (gB f) = false) (fun o => match o with | .inl _ => l.any (gB f) = false | .inr z => ∃ i, ∃ hi : i < l.length, z = (i : Int) /\ gB f l[i] = true /\ (l.take i).any (gB f) = false) l.length (x0 := (0 : Int)) ⟨rfl, rfl⟩ (by
  rintro i _ rec hi ⟨rfl, ha⟩;obtain ⟨b, hb⟩ := h _ (bn hi);have hg : gB f l[i] = b := by simp [gB, hb]
  unfold AW;rw [bf (by omega), bb, Aq hi, ba, hb, ba]
  cases b with
  | true => exact .inr ⟨_, rfl, i, hi, rfl, hg, ha⟩
  | false =>
   refine .inl ⟨((i + 1 : Nat) : Int), ?_, rfl, ?_⟩
   ·rw [bc, w64 (by omega) (by omega)]; rfl
   ·rw [List.take_succ_eq_append_getElem hi, List.any_append, ha, List.any_cons, hg]; rfl) (by
  rintro _ rec ⟨rfl, ha⟩;refine ⟨.inl (), ?_, ?_⟩
  ·unfold AW;rw [bg (by omega), bc]
  ·rw [List.take_length] at ha; exact ha) (n := FUEL) (by unfold FUEL; omega)
 rw [e, ba]
 cases o with
 | inl u => exact .inl ⟨rfl, hR⟩
 | inr z => obtain ⟨i, hi, rfl, h1, h2⟩ := hR; exact .inr ⟨i, hi, rfl, h1, h2⟩
theorem Kb {α : Type} {l : List α} {p : α -> Bool} (h : l.any p = false) : l.filter (fun x => !p x) = l :=
 List.filter_eq_self.2 fun x hx => by have := List.any_eq_false.1 h x hx; simpa using this
theorem Ub {l : List (List By8)} {f : List By8 -> Option Bool} (hl : l.length <= 1073741824) (h : ∀ x ∈ l, ∃ b, f x = some b) : A1 l f = some (l.filter fun x => !gB f x) := by
 unfold A1;simp only [AA];rcases Wo hl h with ⟨e, ha⟩ | ⟨i, hi, e, hg, ha⟩
 ·rw [e, ba, Kb ha]; rfl
 rw [e, ba, show ((i : Int) == (-1 : Int)) = false by simp, bc, w64 (by omega) (by omega)];obtain ⟨o, e, hR⟩ := AB (b := AS f)
  (fun m s => s.2.2 = ((i + 1 + m : Nat) : Int) /\ s.1.length = l.length /\ s.2.1 = (((l.take (i + 1 + m)).filter fun x => !gB f x).length : Int) /\ ((l.take (i + 1 + m)).filter fun x => !gB f x).length < i + 1 + m /\
   s.1.take ((l.take (i + 1 + m)).filter fun x => !gB f x).length = (l.take (i + 1 + m)).filter (fun x => !gB f x) /\ s.1.drop (i + 1 + m) = l.drop (i + 1 + m))
  (fun o => o.1.length = l.length /\ o.2 = ((l.filter fun x => !gB f x).length : Int) /\ (l.filter fun x => !gB f x).length < l.length /\ o.1.take (l.filter fun x => !gB f x).length = l.filter fun x => !gB f x) (l.length - (i + 1)) (x0 := (l, (i : Int), (i : Int) + 1)) (by
   have e1 : ((l.take (i + 1)).filter fun x => !gB f x) = l.take i := by
    rw [List.take_succ_eq_append_getElem hi, List.filter_append, Kb ha];simp [hg]
   have e2 : (l.take i).length = i := by rw [List.length_take]; omega
   refine ⟨by simp, rfl, ?_, ?_, ?_, rfl⟩
   ·simp only [Nat.add_zero]; rw [e1, e2]
   ·simp only [Nat.add_zero]; rw [e1, e2]; omega
   ·simp only [Nat.add_zero]; rw [e1, e2]) (by
   rintro m ⟨a, p, j⟩ rec hm ⟨h1, h2, h3, h4, h5, h6⟩;simp only at h1 h2 h3 h5 h6;subst h1 h3;have hj : i + 1 + m < l.length := by omega
   have hja : i + 1 + m < a.length := by omega
   have hx : a[i + 1 + m] = l[i + 1 + m] := by
    have := congrArg (fun z => z[0]?) h6;simp only [List.getElem?_drop, Nat.add_zero, List.getElem?_eq_getElem hja, List.getElem?_eq_getElem hj] at this;exact Option.some.inj this
   obtain ⟨b, hb⟩ := h _ (bn hj);have hg' : gB f l[i + 1 + m] = b := by simp [gB, hb]
   have et : (l.take (i + 1 + (m + 1))).filter (fun x => !gB f x) = (l.take (i + 1 + m)).filter (fun x => !gB f x) ++ (if b then [] else [l[i + 1 + m]]) := by
    rw [show i + 1 + (m + 1) = (i + 1 + m) + 1 by omega, List.take_succ_eq_append_getElem hj, List.filter_append];congr 1;cases b <;> simp [hg']
   generalize hF : (l.take (i + 1 + m)).filter (fun x => !gB f x) = F at h4 h5 et ⊢;have hd : a.drop (i + 1 + (m + 1)) = l.drop (i + 1 + (m + 1)) := by
    have := congrArg (List.drop 1) h6;simpa [List.drop_drop, Nat.add_assoc] using this
   unfold AS;simp only [AA];left;rw [bf (by omega), bb, Aq hja, ba, hx, hb, ba]
   cases b with
   | true =>
    refine ⟨(a, (F.length : Int), ((i + 1 + (m + 1) : Nat) : Int)), ?_, rfl, h2, ?_, ?_, ?_, hd⟩
    ·rw [Bool.not_true, bc, w64 (by omega) (by omega)]; rfl
    ·rw [et]; simp
    ·rw [et]; simp; omega
    ·rw [et]; simpa using h5
   | false =>
    have hFa : F.length < a.length := by omega
    refine ⟨(a.set F.length l[i + 1 + m], ((F.length + 1 : Nat) : Int), ((i + 1 + (m + 1) : Nat) : Int)), ?_, rfl, by simp [h2], ?_, ?_, ?_, ?_⟩
    ·rw [Bool.not_false, bb, Aq hFa];simp only [ba, Int.toNat_natCast];rw [w64 (by omega) (by omega), w64 (by omega) (by omega)]; rfl
    ·rw [et]; simp
    ·rw [et]; simp; omega
    ·rw [et];simp only [Bool.false_eq_true, if_false, bm, bi, bj, Nat.zero_add];rw [List.take_succ_eq_append_getElem (by simp; omega), List.take_set_of_le (Nat.le_refl _), h5];simp
    ·rw [List.drop_set_of_lt (by omega)]; exact hd) (by
   rintro ⟨a, p, j⟩ rec ⟨h1, h2, h3, h4, h5, h6⟩;simp only at h1 h2 h3 h5 h6;subst h1 h3;have el : i + 1 + (l.length - (i + 1)) = l.length := by omega
   rw [el, List.take_length] at h4 h5;refine ⟨(a, ((l.filter fun x => !gB f x).length : Int)), ?_, h2, rfl, h4, h5⟩;unfold AS;simp only [AA]
   rw [el, bg (by omega), bc, List.take_length]) (n := FUEL) (by unfold FUEL; omega)
 rw [e, ba];obtain ⟨a, p⟩ := o;obtain ⟨r1, r2, r3, r4⟩ := hR;simp only at r1 r2 r4 ⊢;subst r2;rw [F9 (by omega), ba];unfold ltL;rw [if_pos (by omega), ba, Int.toNat_natCast, r4]
def HD : List By8 := [104, 116, 116, 112, 58, 47, 47, 119, 119, 119, 46, 119, 51, 46, 111, 114, 103, 47, 88, 77, 76, 47, 49, 57, 57, 56, 47, 110, 97, 109, 101, 115, 112, 97, 99, 101]
def PX (p : Aa) : List (List By8) := (Lib.compact (Gn (Dy p))).filter fun x => !(x == HD)
theorem PX_ss (p : Aa) : SS (PX p) := (Kk (Dy p)).1.filter _
theorem PX_mem (p : Aa) (x : List By8) : x ∈ PX p ↔ x ∈ Dy p /\ x ≠ HD := by
 unfold PX;rw [List.mem_filter, (Kk (Dy p)).2];simp
theorem M0 (l : List (List By8)) : (Lib.compact (Gn l)).length <= l.length := by
 have := IW (Gn l)
 rwa [IA] at this
theorem PX_len (p : Aa) : (PX p).length <= szN p := by
 have h1 := M0 (Dy p);have h2 := Gz p;have h3 : (PX p).length <= (Lib.compact (Gn (Dy p))).length := List.length_filter_le _ _;omega
theorem Ob (p : Aa) (h : szN p <= 1049600) : Cq p = some (PX p) := by
 have h1 := M0 (Dy p);have h2 := Gz p;unfold Cq;have hd := Ub (l := Lib.compact (Gn (Dy p))) (f := DI) (by omega) (fun x _ => ⟨x == HD, rfl⟩);rw [RJ p h, ba, hd, ba];rfl
theorem OC (p : Aa) (h : szN p <= 1049600) : Dr p = some (PX p) := by
 have h1 := M0 (Dy p);have h2 := Gz p;unfold Dr AA;dsimp only;rw [RM p h, ba];unfold PX;generalize Lib.compact (Gn (Dy p)) = L at h1 ⊢;obtain ⟨o, ho, hr⟩ := AB (b := BT L) (fun i s => s = ((L.take i).filter (fun x => !(x == HD)), (i : Int))) (fun o => o = L.filter (fun x => !(x == HD))) L.length (x0 := ([], (0 : Int))) (by simp)
  (fun i s rec hi hs => by
   subst hs;left;refine ⟨((L.take (i + 1)).filter (fun x => !(x == HD)), ((i + 1 : Nat) : Int)), ?_, rfl⟩;have hl : ((L.take i).filter (fun x => !(x == HD))).length <= i := Nat.le_trans (List.length_filter_le _ _) (by simp; omega);rw [Gb hi, List.filter_append, List.filter_cons, List.filter_nil];unfold BT AA;dsimp only;rw [bf (by omega), bb, Aq hi, ba, w64 (by omega) (by omega)];by_cases hx : (!(L[i] == HD)) = true
   ·rw [if_pos hx, F0 (by simp only [bi, bj]; omega) (by simp only [bi, bj]; omega), ba];unfold HD at hx ⊢;rw [hx, bb];rfl
   ·rw [if_neg hx, List.append_nil];have hx' : (!(L[i] == HD)) = false := by simpa using hx
    unfold HD at hx' ⊢;rw [hx', bc]
    rfl)
  (fun s rec hs => ⟨L.filter (fun x => !(x == HD)), by
   subst hs;unfold BT;dsimp only
   rw [bg (by omega), bc, List.take_length], rfl⟩) (n := FUEL) (by unfold FUEL; omega)
 rw [ho, ba, hr]
end Go.Proofs.YtjofelloaofooaaGreatDoor
