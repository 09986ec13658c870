/- Canon: digits, what is escaped, what is put. No condition. -/
import Derived.Lib.ItoaLen
import Derived.Test.YtjofelloaofooaaGreatDoorX4
set_option linter.unusedSimpArgs false
set_option linter.unusedVariables false
namespace Go.Proofs.YtjofelloaofooaaGreatDoor
theorem XL (v k : Nat) : Int.tmod (v : Int) (k : Int) = ((v % k : Nat) : Int) := by rw [Int.tmod_eq_emod_of_nonneg (by omega)]; rfl
theorem ZX : ∀ q : Nat, q < 10 -> u8 (IntKind.wrap .u8 (IntKind.wrap .i64 ((48 : Int) + (q : Int)))) = some (UInt8.ofNat (48 + q))
 | 0, _ => rfl
 | 1, _ => rfl
 | 2, _ => rfl
 | 3, _ => rfl
 | 4, _ => rfl
 | 5, _ => rfl
 | 6, _ => rfl
 | 7, _ => rfl
 | 8, _ => rfl
 | 9, _ => rfl
 | q + 10, h => by omega
theorem To (u : Nat) (h : u <= 2097152) : (Lib.decDigits u).length <= 21 := by
 have := Lib.itoa_length_le (u : Int) (by omega) (by omega)
 rwa [Lib.itoa_nonneg] at this
theorem Zb (u : Nat) (h1 : 1 <= u) (h : u <= 2097152) : Bv (u : Int) = some (Lib.decDigits u) := by
 have hu := To u h;obtain ⟨o, h1, ht⟩ := AC (b := Cy)
  (fun i x => ∃ (v : Nat) (t : List By8), x = ((v : Int), t) /\ v + i <= u /\ (if v = 0 then t else Lib.decDigits v ++ t) = Lib.decDigits u)
  (fun o => o = Lib.decDigits u) u (x0 := ((u : Int), [])) ⟨u, [], rfl, by omega, by rw [if_neg (by omega)]; simp⟩
  (fun i x rec hi ⟨v, t, hx, hv, ht⟩ => by
   subst hx;unfold Cy;dsimp only;by_cases h9 : 0 < v
   ·left;rw [if_neg (by omega)] at ht;have hl : t.length <= 21 := by
     have := congrArg List.length ht;rw [bm] at this; omega
    refine ⟨(((v / 10 : Nat) : Int), [UInt8.ofNat (48 + v % 10)] ++ t), ?_, v / 10, _, rfl, by omega, ?_⟩
    ·rw [bf (by omega), bb, show Int.tmod (v : Int) 10 = ((v % 10 : Nat) : Int) from XL v 10, ZX _ (by omega), ba];have hc : cat [UInt8.ofNat (48 + v % 10)] t = some ([UInt8.ofNat (48 + v % 10)] ++ t) := by unfold cat; rw [if_pos (by simp; omega)]
     rw [hc, ba, show Int.tdiv (v : Int) 10 = ((v / 10 : Nat) : Int) by rw [Int.tdiv_eq_ediv_of_nonneg (by omega)]; simp, w64 (by omega) (by omega)]
    ·rw [<- ht];by_cases h10 : v < 10
     ·rw [if_pos (by omega)]
      conv => rhs; rw [Lib.decDigits, dif_pos h10]
      rw [Nat.mod_eq_of_lt h10]
     ·rw [if_neg (by omega)]
      conv => rhs; rw [Lib.decDigits, dif_neg h10]
      simp
   ·right;have hv0 : v = 0 := by omega
    subst hv0;refine ⟨t, ?_, by simpa using ht⟩
    rw [bg (by omega), bc])
  (fun x rec ⟨v, t, hx, hv, ht⟩ => ⟨t, by
   subst hx;unfold Cy;dsimp only;rw [bg (by omega), bc], by
   have hv0 : v = 0 := by omega
   subst hv0
   simpa using ht⟩) (n := FUEL) (by unfold FUEL; omega)
 unfold Bv AJ;dsimp only;rw [h1, ba, ht]
theorem Aey (p0 p1 : List By8) (p2 : List (List By8)) (i : Int) (c : By8) (h : idx p0 i = some c) : AH p0 p1 p2 i = AH [c] p1 p2 0 := by
 funext rec x;obtain ⟨a, b⟩ := x;unfold AH;have h0 : idx [c] (0 : Int) = some c := rfl;simp only [h, h0]
def spT : List By8 := [38, 60, 62, 13]
def reT : List (List By8) := [[38, 97, 109, 112, 59], [38, 108, 116, 59], [38, 103, 116, 59], [38, 35, 49, 51, 59], [], []]
def spQ : List By8 := [38, 60, 34, 9, 10, 13]
def reQ : List (List By8) := [[38, 97, 109, 112, 59], [38, 108, 116, 59], [38, 113, 117, 111, 116, 59], [38, 35, 57, 59], [38, 35, 49, 48, 59], [38, 35, 49, 51, 59]]
theorem Tz : ((List.range 256).all fun n => iter (AH [UInt8.ofNat n] spT reT 0) FUEL ([UInt8.ofNat n], (0 : Int)) == some (escT (UInt8.ofNat n))) = true := by kernel_rfl
theorem SV : ((List.range 256).all fun n => iter (AH [UInt8.ofNat n] spQ reQ 0) FUEL ([UInt8.ofNat n], (0 : Int)) == some (escQ (UInt8.ofNat n))) = true := by kernel_rfl
theorem Tw (c : By8) : iter (AH [c] spT reT 0) FUEL ([c], (0 : Int)) = some (escT c) := by
 have := List.all_eq_true.1 Tz c.toNat (by simp; exact c.toNat_lt);simpa using this
theorem TV (c : By8) : iter (AH [c] spQ reQ 0) FUEL ([c], (0 : Int)) = some (escQ c) := by
 have := List.all_eq_true.1 SV c.toNat (by simp; exact c.toNat_lt);simpa using this
theorem Po (c : By8) : (escT c).length <= 6 := by unfold escT; split <;> simp
theorem Ms (c : By8) : (escQ c).length <= 6 := by unfold escQ; split <;> simp
theorem Ja {f : By8 -> List By8} (hf : ∀ c, (f c).length <= 6) : ∀ l : List By8, (l.flatMap f).length <= 6 * l.length
 | [] => by simp
 | c :: l => by have := Ja hf l; have := hf c; simp only [List.flatMap_cons, bm, bi]; omega
theorem Ts {l : List By8} {i : Nat} (h : i < l.length) (f : By8 -> List By8) : (l.take (i + 1)).flatMap f = (l.take i).flatMap f ++ f l[i] := by
 rw [List.take_add_one, List.getElem?_eq_getElem h]; simp only [Option.toList_some, List.flatMap_append, List.flatMap_cons, List.flatMap_nil, List.append_nil]
theorem Yg (p sp : List By8) (re : List (List By8)) (f : By8 -> List By8) (hf : ∀ c, (f c).length <= 6) (h1 : ∀ c, iter (AH [c] sp re 0) FUEL ([c], (0 : Int)) = some (f c)) (hp : p.length <= 1049600) :
  Bm p sp re = some (p.flatMap f) := by
 obtain ⟨o, ho, hr⟩ := AC (b := Cj p sp re) (fun i x => x = ((p.take i).flatMap f, (i : Int))) (fun o => o = p.flatMap f) p.length (x0 := ([], (0 : Int))) (by simp)
  (fun i x rec hi hx => by
   subst hx;left;refine ⟨((p.take (i + 1)).flatMap f, ((i + 1 : Nat) : Int)), ?_, rfl⟩;have hs : slc p (i : Int) (IntKind.wrap .i64 ((i : Int) + 1)) = some [p[i]] := by
    rw [w64 (by omega) (by omega)];unfold slc;rw [if_pos (by omega)];have e1 : ((i : Int) + 1).toNat - (i : Int).toNat = 1 := by omega
    rw [e1, Int.toNat_natCast, List.drop_eq_getElem_cons hi]; rfl
   have hc := Ja hf (p.take i);have hc2 := hf p[i];have hl : (p.take i).length <= 1049600 := by rw [List.length_take]; omega
   unfold Cj AJ;dsimp only;rw [bf (by omega), bb, hs, ba, Aey p sp re (i : Int) p[i] (Av hi), h1, ba, Fe (by omega), ba, Ts hi, w64 (by omega) (by omega)]
   rfl)
  (fun x rec hx => ⟨p.flatMap f, by
   subst hx;unfold Cj;dsimp only
   rw [bg (by omega), bc, List.take_length], rfl⟩) (n := FUEL) (by unfold FUEL; omega)
 unfold Bm AJ;dsimp only;rw [ho, ba, hr]
theorem Yp (p : List By8) (hp : p.length <= 1049600) : Cq p = some (p.flatMap escT) := by
 unfold Cq;have := Yg p spT reT escT Po Tw hp;unfold spT reT at this;rw [this]; rfl
theorem R3 (p : List By8) (hp : p.length <= 1049600) : BM p = some (p.flatMap escQ) := by
 unfold BM;have := Yg p spQ reQ escQ Ms TV hp;unfold spQ reQ at this;rw [this]; rfl
theorem Ye (p : List By8) (hp : p.length <= 1049600) : L_referText p = some (p.flatMap escT) := by unfold L_referText; rw [if_pos (by omega)]
theorem Sw (p : List By8) (hp : p.length <= 1049600) : L_referQuote p = some (p.flatMap escQ) := by unfold L_referQuote; rw [if_pos (by omega)]
theorem Kc {n : Nat} (h : n <= 140737488355328) : gdL n = some () := by unfold gdL; rw [if_pos h]
theorem Rg {l : List (List By8)} {i : Nat} (h : i < l.length) : (l.take (i + 1)).flatten = (l.take i).flatten ++ l[i] := by
 rw [List.take_add_one, List.getElem?_eq_getElem h]; simp only [Option.toList_some, List.flatten_append, List.flatten_cons, List.flatten_nil, List.append_nil]
theorem WG (w : Ai) (L : List (List By8)) (hL : L.length <= 1000) (h : w.Builder.buf.length + L.flatten.length <= 140737488355328) : Ay w L = some (w.Builder.buf ++ L.flatten) := by
 obtain ⟨o, ho, hr⟩ := AC (b := C8 L) (fun i x => x = (w.Builder.buf ++ (L.take i).flatten, (i : Int))) (fun o => o = w.Builder.buf ++ L.flatten) L.length (x0 := (w.Builder.buf, (0 : Int))) (by simp)
  (fun i x rec hi hx => by
   subst hx;left;refine ⟨(w.Builder.buf ++ (L.take (i + 1)).flatten, ((i + 1 : Nat) : Int)), ?_, rfl⟩;have hle : (L.take (i + 1)).flatten.length <= L.flatten.length := by
    have := congrArg (fun l => (List.flatten l).length) (List.take_append_drop (i + 1) L);simp only [List.flatten_append, bm] at this;omega
   rw [Rg hi, bm] at hle;unfold C8;dsimp only;rw [bf (by omega), bb, Av hi, ba, Kc (by rw [bm]; omega), ba, ba, Rg hi, w64 (by omega) (by omega), List.append_assoc]
   rfl)
  (fun x rec hx => ⟨w.Builder.buf ++ L.flatten, by
   subst hx;unfold C8;dsimp only
   rw [bg (by omega), bc, List.take_length], rfl⟩) (n := FUEL) (by unfold FUEL; omega)
 unfold Ay;rw [ho, ba, hr]

set_option linter.unusedSimpArgs false
set_option linter.unusedVariables false
def Mw (s : List By8) : Bool := !(s == ([] : List By8))
def I8 (l : List Ae) : List (List By8) := (l.map fun a => a.Name.URI).filter Mw
def Lo (n : Ab) : List (List By8) := ([n.Name.URI] ++ n.Attrs.map fun a => a.Name.URI).filter Mw
def D4 (p : Ab) : List (List By8) := (AU p).flatMap Lo
def Hy (l : List Ab) : List (List By8) := (Dh l).flatMap Lo
theorem Mg (p : Ab) : D4 p = Lo p ++ Hy p.Kids := by unfold D4 Hy; rw [Dk, List.flatMap_cons]
theorem P1 {l : List Ab} {i : Nat} (h : i < l.length) : Hy (l.take (i + 1)) = Hy (l.take i) ++ D4 l[i] := by unfold Hy D4; rw [Jn h, List.flatMap_append]
theorem TL (n : Ab) : Lo n = (if Mw n.Name.URI then [n.Name.URI] else []) ++ I8 n.Attrs := by
 unfold Lo I8;rw [List.filter_append];congr 1;by_cases h : Mw n.Name.URI <;> simp [h]
theorem Qn {l : List Ae} {i : Nat} (h : i < l.length) : I8 (l.take (i + 1)) = I8 (l.take i) ++ (if Mw l[i].Name.URI then [l[i].Name.URI] else []) := by
 unfold I8;rw [List.take_add_one, List.getElem?_eq_getElem h, List.map_append, List.filter_append];congr 1;by_cases h : Mw l[i].Name.URI <;> simp [h]
theorem MU (l : List Ae) : (I8 l).length <= l.length := by unfold I8; exact Nat.le_trans (List.length_filter_le _ _) (by simp)
theorem Sb (n : Ab) : (Lo n).length <= 1 + n.Attrs.length := by unfold Lo; exact Nat.le_trans (List.length_filter_le _ _) (by simp; omega)
theorem Oh (x : Ab) : 1 + x.Attrs.length + GH x.Kids <= szN x := by
 cases x with
 | mk K N A Ks T =>
  have h := Mn (fun x : Ae => ((((x.Name.URI.length + 1) + ((x.Name.Local.length + 1) + 0)) + 1) + ((x.Value.length + 1) + 0)) + 1) (fun x => by omega) A;simp only [szN, AE];omega
mutual
theorem HC : ∀ x : Ab, (D4 x).length <= szN x
 | ⟨K, N, A, Kids, T⟩ => by
  have h1 := Kr Kids;have h2 := Oh ⟨K, N, A, Kids, T⟩;have h3 := Sb ⟨K, N, A, Kids, T⟩;rw [Mg, bm];simp only at h2 h3 h1 ⊢;omega
theorem Kr : ∀ l : List Ab, (Hy l).length <= GH l
 | [] => by simp [Hy, Dh]
 | k :: l => by
  have h1 := HC k;have h2 := Kr l;have e : Hy (k :: l) = D4 k ++ Hy l := by unfold Hy D4; simp only [Dh, List.flatMap_append]
  rw [e, bm];simp only [GH];have : szN k = AE k := rfl;omega
end
theorem QX {l : List Ab} {i : Nat} (hi : i < l.length) : GH (l.take i) + szN l[i] <= GH l := by
 have hs : ∀ (a b : List Ab), GH (a ++ b) = GH a + GH b := fun a b => by simp [I6]
 have e1 : l = l.take i ++ l[i] :: l.drop (i + 1) := by rw [<- List.drop_eq_getElem_cons hi, List.take_append_drop]
 have e2 : GH l = GH (l.take i) + (szN l[i] + GH (l.drop (i + 1))) := by
  conv => lhs; rw [e1]
  rw [hs]; rfl
 omega
theorem Pg : ∀ (n : Nat) (p : Ab) (l : List (List By8)), szN p < n -> l.length + szN p <= 2097152 -> iter Ci n (p, l) = some (l ++ D4 p)
 | 0, p, l, h, _ => by omega
 | n + 1, p, l, h, hl => by
  have hk := EX p;have ho := Oh p;have ih := fun q m => Pg n q m;rw [DH];generalize iter Ci n = rc at ih ⊢;unfold Ci;simp only [AJ];have key : ∀ m : List (List By8), m = l ++ (if Mw p.Name.URI then [p.Name.URI] else []) -> ((iter (DE p) FUEL (m, (0 : Int))).bind fun o => (iter (DC p rc) FUEL (o, (0 : Int))).bind fun o => some o) = some (l ++ D4 p) := by
   intro m hm;have hml : m.length <= l.length + 1 := by subst hm; split <;> simp
   obtain ⟨o1, e1, hR1⟩ := AC (b := DE p) (fun i s => s = (m ++ I8 (p.Attrs.take i), (i : Int))) (fun o => o = m ++ I8 p.Attrs) p.Attrs.length (x0 := (m, (0 : Int))) (by simp [I8]) (by
    rintro i _ rec hi rfl;left;have ha := MU (p.Attrs.take i);have ha2 : (p.Attrs.take i).length <= p.Attrs.length := by simp; omega
    refine ⟨_, ?_, rfl⟩;unfold DE AJ;dsimp only;rw [bf (by omega), bb, Av hi, ba, Qn hi, w64 (by omega) (by omega)];by_cases hf : Mw p.Attrs[i].Name.URI
    ·have hf' : (!(p.Attrs[i].Name.URI == ([] : List By8))) = true := hf;rw [hf', bb, FA (by simp only [bm, bi, bj]; omega) (by simp only [bm, bi, bj]; omega), ba, ba, if_pos hf, List.append_assoc];rfl
    ·have hf' : (!(p.Attrs[i].Name.URI == ([] : List By8))) = false := by simpa [Mw] using hf
     rw [hf', bc, if_neg hf, List.append_nil]
     rfl) (by
    rintro _ rec rfl;refine ⟨_, ?_, rfl⟩;unfold DE;dsimp only
    rw [bg (by omega), bc, List.take_length]) (n := FUEL) (by unfold FUEL; omega)
   rw [e1, ba, hR1];have hA := MU p.Attrs
   obtain ⟨o, e, hR⟩ := AC (b := DC p rc) (fun i s => s = (m ++ I8 p.Attrs ++ Hy (p.Kids.take i), (i : Int))) (fun o => o = m ++ I8 p.Attrs ++ Hy p.Kids) p.Kids.length (x0 := (m ++ I8 p.Attrs, (0 : Int))) (by simp [Hy, Dh]) (by
    rintro i _ rec hi rfl;left;have h1 := QX hi;have h2 := Kr (p.Kids.take i);refine ⟨_, ?_, rfl⟩;unfold DC;dsimp only;rw [bf (by have := CA p; omega), bb, Av hi, ba, ih p.Kids[i] _ (by omega) (by simp only [bm]; omega), ba, w64 (by have := CA p; omega) (by have := CA p; omega), P1 hi, List.append_assoc (m ++ I8 p.Attrs)]
    rfl) (by
    rintro _ rec rfl;refine ⟨_, ?_, rfl⟩;unfold DC;dsimp only
    rw [bg (by omega), bc, List.take_length]) (n := FUEL) (by have := CA p; unfold FUEL; omega)
   rw [e, ba, hR, Mg, TL, hm];simp only [List.append_assoc]
  by_cases hf : Mw p.Name.URI
  ·have hf' : (!(p.Name.URI == ([] : List By8))) = true := hf;rw [hf', bb, FA (by simp only [bi, bj]; omega) (by simp only [bi, bj]; omega), ba, ba];exact key _ (by rw [if_pos hf])
  ·have hf' : (!(p.Name.URI == ([] : List By8))) = false := by simpa [Mw] using hf
   rw [hf', bc];exact key _ (by rw [if_neg hf, List.append_nil])
theorem Tj (p : Ab) (h : szN p <= 1049600) : D2 p = some (Lib.compact (He (D4 p))) := by
 have hl := HC p;have e : Es p [] = some (D4 p) := by
  unfold Es;have := Pg FUEL p [] (by unfold FUEL; omega) (by simp; omega);simpa using this
 unfold D2;rw [e, ba, Kc (by omega), ba, ba, Kc (by rw [Kl]; omega), ba, ba]

set_option linter.unusedSimpArgs false
set_option linter.unusedVariables false
theorem HB : ∀ {a b : List By8}, ET a b = 0 -> a = b
 | [], [], _ => rfl
 | [], _ :: _, h => by simp [ET] at h
 | _ :: _, [], h => by simp [ET] at h
 | a :: x, b :: y, h => by
  unfold ET at h;split at h
  ·exact absurd h (by assumption)
  ·rename_i h1;have e := Q9 (a := a.toNat) (b := b.toNat) (by omega);have e1 : a = b := UInt8.toNat_inj.1 (by omega);rw [e1, HB h]
theorem Kb (a b : List By8) : Op.bytesLess a b = decide (ET a b < 0) := by
 have h := Jh a b;have r := DM.rng a b;by_cases h1 : Op.bytesLess a b = true
 ·rw [if_pos h1] at h;rw [h1, <- h]; rfl
 ·have h1' : Op.bytesLess a b = false := by simpa using h1
  rw [if_neg h1] at h;rw [h1'];have : ¬ ET a b < 0 := by rw [<- h]; split <;> simp
  simp [this]
theorem Ph (a b : List By8) : decide (a <= b) = decide (ET a b <= 0) := by
 have h1 := Kb b a;rw [bytesLess_eq] at h1;have h2 := DM.anti a b;have h3 : (b < a) ↔ ET b a < 0 := by simpa using h1
 have h4 : (a <= b) ↔ ¬ (b < a) := List.not_lt.symm;by_cases h : ET a b <= 0
 ·rw [bf h, bf (h4.2 (fun hc => by have := h3.1 hc; omega))]
 ·rw [bg h, bg (fun hc => h4.1 hc (h3.2 (by omega)))]
def SS (l : List (List By8)) : Prop := l.Pairwise fun a b => ET a b < 0
theorem Yz {a b c : List By8} (h1 : ET a b < 0) (h2 : ET b c <= 0) : ET a c < 0 := by
 have h := DM.trans a b c (by omega) h2;rcases Int.lt_or_eq_of_le h with h | h
 ·exact h
 ·have e := HB h;subst e;have := DM.anti a b;omega
theorem Aad {a b c : List By8} (h1 : ET a b <= 0) (h2 : ET b c < 0) : ET a c < 0 := by
 have h := DM.trans a b c h1 (by omega);rcases Int.lt_or_eq_of_le h with h | h
 ·exact h
 ·have e := HB h;subst e;have := DM.anti a b;omega
theorem W2 {a b : List By8} (h : ET a b < 0) : a ≠ b := fun e => by subst e; have := DM.refl a; omega
theorem YW : ∀ {l m : List (List By8)}, SS l -> SS m -> (∀ x, x ∈ l ↔ x ∈ m) -> l = m
 | [], [], _, _, _ => rfl
 | [], y :: m, _, _, h => by have := (h y).2 List.mem_cons_self; cases this
 | x :: l, [], _, _, h => by have := (h x).1 List.mem_cons_self; cases this
 | x :: l, y :: m, h1, h2, h => by
  obtain ⟨a1, a2⟩ := List.pairwise_cons.1 h1;obtain ⟨b1, b2⟩ := List.pairwise_cons.1 h2;have hxy : x = y := by
   rcases List.mem_cons.1 ((h x).1 List.mem_cons_self) with e | e
   ·exact e
   ·rcases List.mem_cons.1 ((h y).2 List.mem_cons_self) with e' | e'
    ·exact e'.symm
    ·have c1 := b1 x e;have c2 := a1 y e';have := DM.anti x y;omega
  subst hxy;rw [YW a2 b2 fun z => ⟨fun hz => ?_, fun hz => ?_⟩]
  ·rcases List.mem_cons.1 ((h z).1 (List.mem_cons_of_mem _ hz)) with e | e
   ·exact absurd e (fun e => W2 (a1 z hz) e.symm)
   ·exact e
  ·rcases List.mem_cons.1 ((h z).2 (List.mem_cons_of_mem _ hz)) with e | e
   ·exact absurd e (fun e => W2 (b1 z hz) e.symm)
   ·exact e
theorem Nj (d : Array (List By8)) (hd : ∀ i j, i <= j -> j < d.size -> ET d[i]! d[j]! <= 0) : ∀ m, m <= d.size -> SS (Lib.compactUpTo d m) /\ ∀ x, x ∈ Lib.compactUpTo d m ↔ ∃ j, j < m /\ d[j]! = x
 | 0, _ => ⟨by unfold Lib.compactUpTo; exact .nil, fun x => by unfold Lib.compactUpTo; simp⟩
 | m + 1, hm => by
  obtain ⟨h1, h2⟩ := Nj d hd m (by omega);rw [Lib.compactUpTo_succ];by_cases hk : Lib.keeps d m = true
  ·rw [if_pos hk];refine ⟨List.pairwise_append.2 ⟨h1, List.pairwise_singleton _ _, fun a ha b hb => ?_⟩, fun x => ?_⟩
   ·rw [List.mem_singleton] at hb;subst hb;obtain ⟨j, hj, rfl⟩ := (h2 a).1 ha;have hk' : m = 0 \/ d[m]! ≠ d[m - 1]! := by unfold Lib.keeps at hk; exact of_decide_eq_true hk
    have hk2 : d[m]! ≠ d[m - 1]! := hk'.resolve_left (by omega);have c1 := hd (m - 1) m (by omega) (by omega);have c2 := hd j (m - 1) (by omega) (by omega);refine Aad c2 ?_;rcases Int.lt_or_eq_of_le c1 with h | h
    ·exact h
    ·exact absurd (HB h).symm hk2
   ·rw [List.mem_append, List.mem_singleton, h2];constructor
    ·rintro (⟨j, hj, e⟩ | e)
     ·exact ⟨j, by omega, e⟩
     ·exact ⟨m, by omega, e.symm⟩
    ·rintro ⟨j, hj, e⟩;by_cases e' : j = m
     ·subst e'; exact .inr e.symm
     ·exact .inl ⟨j, by omega, e⟩
  ·rw [if_neg hk, List.append_nil];refine ⟨h1, fun x => ?_⟩;rw [h2];have hk' : ¬ (m = 0 \/ d[m]! ≠ d[m - 1]!) := by unfold Lib.keeps at hk; exact fun h => hk (bf h)
   have hk2 : d[m]! = d[m - 1]! := Classical.byContradiction fun h => hk' (.inr h);have hk3 : m ≠ 0 := fun h => hk' (.inl h);constructor
   ·rintro ⟨j, hj, e⟩; exact ⟨j, by omega, e⟩
   ·rintro ⟨j, hj, e⟩;by_cases e' : j = m
    ·subst e'; exact ⟨j - 1, by omega, by rw [<- e, hk2]⟩
    ·exact ⟨j, by omega, e⟩
theorem RC (l : List (List By8)) : (He l).Pairwise fun a b => ET a b <= 0 := by
 have h := List.pairwise_mergeSort (le := fun x y : List By8 => decide (x <= y)) (fun a b c h1 h2 => by
  rw [Ph] at h1 h2 ⊢
  exact bf (DM.trans a b c (of_decide_eq_true h1) (of_decide_eq_true h2))) (fun a b => by
  rw [Ph, Ph];have := DM.anti a b;by_cases hc : ET a b <= 0
  ·simp [hc]
  ·have : ET b a <= 0 := by omega
   simp [this]) l
 exact h.imp fun {a b} h => by
  have h' : decide (a <= b) = true := h;rw [Ph] at h';exact of_decide_eq_true h'
theorem Mh (l : List (List By8)) : SS (Lib.compact (He l)) /\ ∀ x, x ∈ Lib.compact (He l) ↔ x ∈ l := by
 have hp := RC l
 have h := Nj (He l).toArray (fun i j hij hj => by
  have hj' : j < (He l).length := by simpa using hj
  have e1 : (He l).toArray[i]! = (He l)[i] := by rw [getElem!_pos _ i (by simp; omega)]; simp
  have e2 : (He l).toArray[j]! = (He l)[j] := by rw [getElem!_pos _ j (by simpa using hj')]; simp
  rw [e1, e2];by_cases e : i = j
  ·subst e; have := DM.refl (He l)[i]; omega
  ·exact List.pairwise_iff_getElem.1 hp i j (by omega) hj' (by omega)) (He l).length (by simp)
 refine ⟨h.1, fun x => ?_⟩;show x ∈ Lib.compactUpTo (He l).toArray (He l).length ↔ _;rw [h.2];have hm : x ∈ He l ↔ x ∈ l := by unfold He; exact List.mem_mergeSort
 rw [<- hm, List.mem_iff_getElem];constructor
 ·rintro ⟨j, hj, e⟩;refine ⟨j, hj, ?_⟩;rw [<- e, getElem!_pos _ j (by simpa using hj)]; simp
 ·rintro ⟨j, hj, e⟩;refine ⟨j, hj, ?_⟩;rw [<- e, getElem!_pos _ j (by simpa using hj)]; simp
def Oe (x : List By8) : List (List By8) -> List (List By8)
 | [] => [x]
 | y :: l => if ET y x < 0 then y :: Oe x l else if y = x then y :: l else x :: y :: l
theorem Mu (x : List By8) : ∀ (l : List (List By8)) (z : List By8), z ∈ Oe x l ↔ z = x \/ z ∈ l
 | [], z => by simp [Oe]
 | y :: l, z => by
  unfold Oe;split
  ·rw [List.mem_cons, Mu x l z, List.mem_cons];constructor
   ·rintro (h | h | h) <;> simp [h]
   ·rintro (h | h | h) <;> simp [h]
  ·split
   ·rename_i h; subst h;rw [List.mem_cons];constructor
    ·exact .inr
    ·rintro (h | h)
     ·exact .inl h
     ·exact h
   ·rw [List.mem_cons]
theorem Ra (x : List By8) : ∀ (l : List (List By8)), SS l -> SS (Oe x l)
 | [], _ => List.pairwise_singleton _ _
 | y :: l, h => by
  obtain ⟨h1, h2⟩ := List.pairwise_cons.1 h;unfold Oe;split
  ·rename_i hc;refine .cons (fun z hz => ?_) (Ra x l h2);rcases (Mu x l z).1 hz with e | e
   ·subst e; exact hc
   ·exact h1 z e
  ·rename_i hc;split
   ·exact h
   ·rename_i hne;have hxy : ET x y < 0 := by
     have a := DM.anti y x;rcases Int.lt_or_eq_of_le (show ET x y <= 0 by omega) with h | h
     ·exact h
     ·exact absurd (HB h).symm hne
    refine .cons (fun z hz => ?_) h;rcases List.mem_cons.1 hz with e | e
    ·subst e; exact hxy
    ·exact Yz hxy (by have := h1 z e; omega)
theorem O0 (x : List By8) : ∀ l : List (List By8), (Oe x l).length <= l.length + 1
 | [] => by simp [Oe]
 | y :: l => by
  unfold Oe;split
  ·have := O0 x l; simp only [bi]; omega
  ·split <;> simp
def Eb (x : List By8) : List (List By8) -> Nat
 | [] => 0
 | y :: l => if ET y x < 0 then Eb x l + 1 else 0
theorem IL (x : List By8) : ∀ l : List (List By8), Eb x l <= l.length
 | [] => by simp [Eb]
 | y :: l => by
  unfold Eb;split
  ·have := IL x l; simp only [bi]; omega
  ·exact Nat.zero_le _
theorem Ky (x : List By8) : ∀ (l : List (List By8)) (i : Nat) (h : i < l.length), i < Eb x l -> ET l[i] x < 0
 | y :: l, 0, h, hi => by
  unfold Eb at hi;split at hi
  ·assumption
  ·omega
 | y :: l, i + 1, h, hi => by
  unfold Eb at hi;split at hi
  ·exact Ky x l i (by simpa using h) (by omega)
  ·omega
theorem L9 (x : List By8) : ∀ (l : List (List By8)) (h : Eb x l < l.length), ¬ ET l[Eb x l] x < 0
 | y :: l, h => by
  by_cases hc : ET y x < 0
  ·have e : Eb x (y :: l) = Eb x l + 1 := by rw [Eb, if_pos hc]
   have h' : Eb x l < l.length := by rw [e] at h; simpa using h
   have := L9 x l h';simpa only [e, List.getElem_cons_succ] using this
  ·have e : Eb x (y :: l) = 0 := by rw [Eb, if_neg hc]
   simpa only [e, List.getElem_cons_zero] using hc
theorem Pi (x : List By8) : ∀ l : List (List By8), Oe x l = if h : Eb x l < l.length then (if l[Eb x l] = x then l else l.take (Eb x l) ++ [x] ++ l.drop (Eb x l)) else l.take (Eb x l) ++ [x] ++ l.drop (Eb x l)
 | [] => by simp [Oe, Eb]
 | y :: l => by
  have ih := Pi x l;by_cases hc : ET y x < 0
  ·have e : Eb x (y :: l) = Eb x l + 1 := by rw [Eb, if_pos hc]
   rw [Oe, if_pos hc, ih];by_cases hl : Eb x l < l.length
   ·rw [dif_pos hl, dif_pos (by rw [e]; simpa using hl)];simp only [e, List.getElem_cons_succ, List.take_succ_cons, List.drop_succ_cons];split <;> rfl
   ·rw [dif_neg hl, dif_neg (by rw [e]; simpa using hl)];simp only [e, List.take_succ_cons, List.drop_succ_cons];rfl
  ·have e : Eb x (y :: l) = 0 := by rw [Eb, if_neg hc]
   rw [Oe, if_neg hc, dif_pos (by rw [e]; simp)];simp only [e, List.getElem_cons_zero, List.take_zero, List.drop_zero, List.nil_append];rfl

set_option linter.unusedSimpArgs false
set_option linter.unusedVariables false
def MM (n : Ab) : List (List By8) := [n.Name.URI] ++ n.Attrs.map fun a => a.Name.URI
def FV (l : List (List By8)) (x : List By8) : List (List By8) := if Mw x then Oe x l else l
theorem QE (l : List (List By8)) (x : List By8) : (FV l x).length <= l.length + 1 := by
 unfold FV;split
 ·exact O0 x l
 ·omega
theorem Mi : ∀ (xs l : List (List By8)), (xs.foldl FV l).length <= l.length + xs.length
 | [], l => by simp
 | x :: xs, l => by have := Mi xs (FV l x); have := QE l x; simp only [List.foldl_cons, bi]; omega
theorem RY : ∀ (xs l : List (List By8)), SS l -> SS (xs.foldl FV l)
 | [], l, h => h
 | x :: xs, l, h => RY xs _ (by unfold FV; split; exact Ra x l h; exact h)
theorem O4 : ∀ (xs l : List (List By8)) (z : List By8), z ∈ xs.foldl FV l ↔ z ∈ l \/ z ∈ xs.filter Mw
 | [], l, z => by simp
 | x :: xs, l, z => by
  rw [List.foldl_cons, O4 xs, List.filter_cons];unfold FV;by_cases h : Mw x
  ·rw [if_pos h, if_pos h, Mu, List.mem_cons];constructor
   ·rintro ((h | h) | h) <;> simp [h]
   ·rintro (h | h | h) <;> simp [h]
  ·rw [if_neg h, if_neg h]
theorem Gc {α : Type} {l : List α} {i : Nat} (h : i < l.length) : l.take (i + 1) = l.take i ++ [l[i]] := by
 rw [List.take_add_one, List.getElem?_eq_getElem h]; simp only [Option.toList_some]
theorem Aef (a : List (List By8)) (x : List By8) (ha : a.length <= 4194304) : iter (BR a x) FUEL (0 : Int) = some (Eb x a : Int) := by
 obtain ⟨o, ho, hr⟩ := AC (b := BR a x) (fun i s => s = (i : Int) /\ i <= Eb x a) (fun o => o = (Eb x a : Int)) (Eb x a) (x0 := (0 : Int)) ⟨rfl, by omega⟩
  (fun i s rec hi ⟨hs, hp⟩ => by
   subst hs;left;have hl := IL x a;have hlt : i < a.length := by omega
   refine ⟨((i + 1 : Nat) : Int), ?_, rfl, by omega⟩;unfold BR AJ;dsimp only;rw [bf (by omega), bb, Av hlt, ba, Kb, bf (Ky x a i hlt hi), bb, w64 (by omega) (by omega)]
   rfl)
  (fun s rec ⟨hs, hp⟩ => ⟨(Eb x a : Int), by
   subst hs;unfold BR AJ;dsimp only;by_cases hlt : Eb x a < a.length
   ·rw [bf (by omega), bb, Av hlt, ba, Kb, bg (L9 x a hlt), bc]
   ·rw [bg (by omega), bc, bc], rfl⟩) (n := FUEL) (by have := IL x a; unfold FUEL; omega)
 rw [ho, hr]
theorem Adv (xs a : List (List By8)) (h : a.length + xs.length <= 2097152) : iter (BS xs) FUEL (a, (0 : Int)) = some (xs.foldl FV a) := by
 obtain ⟨o, ho, hr⟩ := AC (b := BS xs) (fun i s => s = ((xs.take i).foldl FV a, (i : Int))) (fun o => o = xs.foldl FV a) xs.length (x0 := (a, (0 : Int))) (by simp)
  (fun i s rec hi hs => by
   subst hs;left;have hl := Mi (xs.take i) a;have hl2 : (xs.take i).length <= xs.length := by simp; omega
   refine ⟨((xs.take (i + 1)).foldl FV a, ((i + 1 : Nat) : Int)), ?_, rfl⟩;rw [Gc hi, List.foldl_append, List.foldl_cons, List.foldl_nil];generalize (xs.take i).foldl FV a = m at hl;have hp := IL xs[i] m;unfold BS AJ;dsimp only;rw [bf (by omega), bb, Av hi, ba, Aef m xs[i] (by omega), ba, w64 (by omega) (by omega)];by_cases hf : Mw xs[i]
   ·have hf' : (!(xs[i] == ([] : List By8))) = true := hf;rw [hf', bb];have hs1 : slc m (0 : Int) (Eb xs[i] m : Int) = some (m.take (Eb xs[i] m)) := T1 hp;have hs2 : slc m (Eb xs[i] m : Int) (m.length : Int) = some (m.drop (Eb xs[i] m)) := GJ hp;have hap : ∀ (u v : List (List By8)), u.length + v.length <= 4194304 -> app 16 u v = some (u ++ v) := fun u v huv => FA (by omega) (by omega)
    have hins : ∀ q : List (List By8) -> Option (List (List By8)), ((slc m (0 : Int) (Eb xs[i] m : Int)).bind fun x343 =>
      (slc m (Eb xs[i] m : Int) (m.length : Int)).bind fun x344 =>
      (app 16 ([] : List (List By8)) x343).bind fun _ =>
      (app 16 (([] : List (List By8)) ++ x343) [xs[i]]).bind fun _ =>
      (app 16 ((([] : List (List By8)) ++ x343) ++ [xs[i]]) x344).bind fun _ =>
      q (((([] : List (List By8)) ++ x343) ++ [xs[i]]) ++ x344)) = q (m.take (Eb xs[i] m) ++ [xs[i]] ++ m.drop (Eb xs[i] m)) := fun q => by
     rw [hs1, ba, hs2, ba, hap _ _ (by simp; omega), ba, hap _ _ (by simp; omega), ba, hap _ _ (by simp; omega), ba, List.nil_append]
    have hstep : FV m xs[i] = Oe xs[i] m := by unfold FV; rw [if_pos hf]
    rw [hstep, Pi];by_cases hlt : Eb xs[i] m < m.length
    ·have hne : ((Eb xs[i] m : Int) == (m.length : Int)) = false := by simp; omega
     rw [hne, bc, Av hlt, ba, dif_pos hlt];by_cases he : m[Eb xs[i] m] = xs[i]
     ·rw [if_pos he, he];have hb : (!(xs[i] == xs[i])) = false := by simp
      rw [hb, bc];rfl
     ·rw [if_neg he];have hb : (!(m[Eb xs[i] m] == xs[i])) = true := by simp [he]
      rw [hb, bb];exact hins fun z => rec (z, (i : Int) + 1)
    ·have hne : ((Eb xs[i] m : Int) == (m.length : Int)) = true := by simp; omega
     rw [hne, bb, bb, dif_neg hlt];exact hins fun z => rec (z, (i : Int) + 1)
   ·have hf' : (!(xs[i] == ([] : List By8))) = false := by simpa [Mw] using hf
    rw [hf', bc, bc];have hstep : FV m xs[i] = m := by unfold FV; rw [if_neg hf]
    rw [hstep]
    rfl)
  (fun s rec hs => ⟨xs.foldl FV a, by
   subst hs;unfold BS;dsimp only
   rw [bg (by omega), bc, List.take_length], rfl⟩) (n := FUEL) (by unfold FUEL; omega)
 rw [ho, hr]
theorem Ad2 (n : Ab) (h : n.Attrs.length <= 1049600) : iter (BT n) FUEL ([n.Name.URI], (0 : Int)) = some (MM n) := by
 obtain ⟨o, ho, hr⟩ := AC (b := BT n) (fun i s => s = ([n.Name.URI] ++ (n.Attrs.take i).map (fun a => a.Name.URI), (i : Int))) (fun o => o = MM n) n.Attrs.length (x0 := ([n.Name.URI], (0 : Int))) (by simp)
  (fun i s rec hi hs => by
   subst hs;left;refine ⟨([n.Name.URI] ++ (n.Attrs.take (i + 1)).map (fun a => a.Name.URI), ((i + 1 : Nat) : Int)), ?_, rfl⟩;rw [Gc hi, List.map_append];unfold BT;dsimp only;rw [bf (by omega), bb, Av hi, ba, FA (by simp; omega) (by simp; omega), ba, w64 (by omega) (by omega), List.append_assoc]
   rfl)
  (fun s rec hs => ⟨MM n, by
   subst hs;unfold BT MM;dsimp only
   rw [bg (by omega), bc, List.take_length], rfl⟩) (n := FUEL) (by unfold FUEL; omega)
 rw [ho, hr]
mutual
theorem Pb : ∀ x : Ab, ((AU x).flatMap MM).length <= szN x
 | ⟨K, N, A, Kids, T⟩ => by
  have h1 := PD Kids;have h2 := Oh ⟨K, N, A, Kids, T⟩;rw [Dk, List.flatMap_cons, bm];have h3 : (MM ⟨K, N, A, Kids, T⟩).length = 1 + A.length := by unfold MM; simp; omega
  simp only at h2 h1 ⊢;omega
theorem PD : ∀ l : List Ab, ((Dh l).flatMap MM).length <= GH l
 | [] => by simp [Dh]
 | k :: l => by
  have h1 := Pb k;have h2 := PD l;simp only [Dh, GH, List.flatMap_append, bm];have : szN k = AE k := rfl;omega
end
theorem TX (p : Ab) (h : szN p <= 1049600) : BU p = some (Lib.compact (He (D4 p))) := by
 have hraw := Pb p;have hfl := GB p;have hsz := G2 p;have hres : ((AU p).flatMap MM).foldl FV [] = Lib.compact (He (D4 p)) := by
  obtain ⟨h1, h2⟩ := Mh (D4 p);refine YW (RY _ _ .nil) h1 fun z => ?_;rw [h2, O4];have : (List.flatMap MM (AU p)).filter Mw = D4 p := by
   unfold D4;rw [List.filter_flatMap];rfl
  rw [this];simp
 obtain ⟨o, ho, hr⟩ := AC (b := Cz (AU p)) (fun i s => s = ((((AU p).take i).flatMap MM).foldl FV [], (i : Int))) (fun o => o = ((AU p).flatMap MM).foldl FV []) (AU p).length (x0 := ([], (0 : Int))) (by simp)
  (fun i s rec hi hs => by
   subst hs;left;refine ⟨(((((AU p).take (i + 1)).flatMap MM).foldl FV []), ((i + 1 : Nat) : Int)), ?_, rfl⟩;have hz := hsz _ (bn hi);have hat := Dg (AU p)[i];have hle : (((AU p).take (i + 1)).flatMap MM).length <= ((AU p).flatMap MM).length := by
    have e := congrArg (fun l => (List.flatMap MM l).length) (List.take_append_drop (i + 1) (AU p));simp only [List.flatMap_append, bm] at e;omega
   rw [Gc hi, List.flatMap_append, bm, List.flatMap_cons, List.flatMap_nil, List.append_nil] at hle;rw [Gc hi, List.flatMap_append, List.flatMap_cons, List.flatMap_nil, List.append_nil, List.foldl_append];have hl := Mi (((AU p).take i).flatMap MM) [];unfold Cz AJ;dsimp only;rw [bf (by omega), bb, Av hi, ba, Ad2 _ (by omega), ba, Adv _ _ (by simp only [bj] at hl; omega), ba, w64 (by omega) (by omega)]
   rfl)
  (fun s rec hs => ⟨((AU p).flatMap MM).foldl FV [], by
   subst hs;unfold Cz;dsimp only
   rw [bg (by omega), bc, List.take_length], rfl⟩) (n := FUEL) (by unfold FUEL; omega)
 unfold BU AJ;dsimp only;rw [Uo p h, ba, ho, ba, hr, hres]

set_option linter.unusedSimpArgs false
set_option linter.unusedVariables false
set_option maxRecDepth 20000
theorem Y5 {l : List (List By8)} {f : List By8 -> Option Bool} (hl : l.length <= 1073741824) (h : ∀ x ∈ l, ∃ b, f x = some b) : (A0 l f = some (-1) /\ l.any (gB f) = false) \/
  ∃ i, ∃ hi : i < l.length, A0 l f = some (i : Int) /\ gB f l[i] = true /\ (l.take i).any (gB f) = false := by
 unfold A0;simp only [AJ]
 obtain ⟨o, e, hR⟩ := AC (b := A9 l f) (fun i s => s = (i : Int) /\ (l.take i).any (gB f) = false) (fun o => match o with | .inl _ => l.any (gB f) = false | .inr z => ∃ i, ∃ hi : i < l.length, z = (i : Int) /\ gB f l[i] = true /\ (l.take i).any (gB f) = false) l.length (x0 := (0 : Int)) ⟨rfl, rfl⟩ (by
  rintro i _ rec hi ⟨rfl, ha⟩;obtain ⟨b, hb⟩ := h _ (bn hi);have hg : gB f l[i] = b := by simp [gB, hb]
  unfold A9;rw [bf (by omega), bb, Av hi, ba, hb, ba]
  cases b with
  | true => exact .inr ⟨_, rfl, i, hi, rfl, hg, ha⟩
  | false =>
   refine .inl ⟨((i + 1 : Nat) : Int), ?_, rfl, ?_⟩
   ·rw [bc, w64 (by omega) (by omega)]; rfl
   ·rw [List.take_succ_eq_append_getElem hi, List.any_append, ha, List.any_cons, hg]; rfl) (by
  rintro _ rec ⟨rfl, ha⟩;refine ⟨.inl (), ?_, ?_⟩
  ·unfold A9;rw [bg (by omega), bc]
  ·rw [List.take_length] at ha; exact ha) (n := FUEL) (by unfold FUEL; omega)
 rw [e, ba]
 cases o with
 | inl u => exact .inl ⟨rfl, hR⟩
 | inr z => obtain ⟨i, hi, rfl, h1, h2⟩ := hR; exact .inr ⟨i, hi, rfl, h1, h2⟩
theorem Lx {α : Type} {l : List α} {p : α -> Bool} (h : l.any p = false) : l.filter (fun x => !p x) = l :=
 List.filter_eq_self.2 fun x hx => by have := List.any_eq_false.1 h x hx; simpa using this
theorem WX {l : List (List By8)} {f : List By8 -> Option Bool} (hl : l.length <= 1073741824) (h : ∀ x ∈ l, ∃ b, f x = some b) : Bh l f = some (l.filter fun x => !gB f x) := by
 unfold Bh;simp only [AJ];rcases Y5 hl h with ⟨e, ha⟩ | ⟨i, hi, e, hg, ha⟩
 ·rw [e, ba, Lx ha]; rfl
 rw [e, ba, show ((i : Int) == (-1 : Int)) = false by simp, bc, w64 (by omega) (by omega)];obtain ⟨o, e, hR⟩ := AC (b := A4 f)
  (fun m s => s.2.2 = ((i + 1 + m : Nat) : Int) /\ s.1.length = l.length /\ s.2.1 = (((l.take (i + 1 + m)).filter fun x => !gB f x).length : Int) /\ ((l.take (i + 1 + m)).filter fun x => !gB f x).length < i + 1 + m /\
   s.1.take ((l.take (i + 1 + m)).filter fun x => !gB f x).length = (l.take (i + 1 + m)).filter (fun x => !gB f x) /\ s.1.drop (i + 1 + m) = l.drop (i + 1 + m))
  (fun o => o.1.length = l.length /\ o.2 = ((l.filter fun x => !gB f x).length : Int) /\ (l.filter fun x => !gB f x).length < l.length /\ o.1.take (l.filter fun x => !gB f x).length = l.filter fun x => !gB f x) (l.length - (i + 1)) (x0 := (l, (i : Int), (i : Int) + 1)) (by
   have e1 : ((l.take (i + 1)).filter fun x => !gB f x) = l.take i := by
    rw [List.take_succ_eq_append_getElem hi, List.filter_append, Lx ha];simp [hg]
   have e2 : (l.take i).length = i := by rw [List.length_take]; omega
   refine ⟨by simp, rfl, ?_, ?_, ?_, rfl⟩
   ·simp only [Nat.add_zero]; rw [e1, e2]
   ·simp only [Nat.add_zero]; rw [e1, e2]; omega
   ·simp only [Nat.add_zero]; rw [e1, e2]) (by
   rintro m ⟨a, p, j⟩ rec hm ⟨h1, h2, h3, h4, h5, h6⟩;simp only at h1 h2 h3 h5 h6;subst h1 h3;have hj : i + 1 + m < l.length := by omega
   have hja : i + 1 + m < a.length := by omega
   have hx : a[i + 1 + m] = l[i + 1 + m] := by
    have := congrArg (fun z => z[0]?) h6;simp only [List.getElem?_drop, Nat.add_zero, List.getElem?_eq_getElem hja, List.getElem?_eq_getElem hj] at this;exact Option.some.inj this
   obtain ⟨b, hb⟩ := h _ (bn hj);have hg' : gB f l[i + 1 + m] = b := by simp [gB, hb]
   have et : (l.take (i + 1 + (m + 1))).filter (fun x => !gB f x) = (l.take (i + 1 + m)).filter (fun x => !gB f x) ++ (if b then [] else [l[i + 1 + m]]) := by
    rw [show i + 1 + (m + 1) = (i + 1 + m) + 1 by omega, List.take_succ_eq_append_getElem hj, List.filter_append];congr 1;cases b <;> simp [hg']
   generalize hF : (l.take (i + 1 + m)).filter (fun x => !gB f x) = F at h4 h5 et ⊢;have hd : a.drop (i + 1 + (m + 1)) = l.drop (i + 1 + (m + 1)) := by
    have := congrArg (List.drop 1) h6;simpa [List.drop_drop, Nat.add_assoc] using this
   unfold A4;simp only [AJ];left;rw [bf (by omega), bb, Av hja, ba, hx, hb, ba]
   cases b with
   | true =>
    refine ⟨(a, (F.length : Int), ((i + 1 + (m + 1) : Nat) : Int)), ?_, rfl, h2, ?_, ?_, ?_, hd⟩
    ·rw [Bool.not_true, bc, w64 (by omega) (by omega)]; rfl
    ·rw [et]; simp
    ·rw [et]; simp; omega
    ·rw [et]; simpa using h5
   | false =>
    have hFa : F.length < a.length := by omega
    refine ⟨(a.set F.length l[i + 1 + m], ((F.length + 1 : Nat) : Int), ((i + 1 + (m + 1) : Nat) : Int)), ?_, rfl, by simp [h2], ?_, ?_, ?_, ?_⟩
    ·rw [Bool.not_false, bb, Av hFa];simp only [ba, Int.toNat_natCast];rw [w64 (by omega) (by omega), w64 (by omega) (by omega)]; rfl
    ·rw [et]; simp
    ·rw [et]; simp; omega
    ·rw [et];simp only [Bool.false_eq_true, if_false, bm, bi, bj, Nat.zero_add];rw [List.take_succ_eq_append_getElem (by simp; omega), List.take_set_of_le (Nat.le_refl _), h5];simp
    ·rw [List.drop_set_of_lt (by omega)]; exact hd) (by
   rintro ⟨a, p, j⟩ rec ⟨h1, h2, h3, h4, h5, h6⟩;simp only at h1 h2 h3 h5 h6;subst h1 h3;have el : i + 1 + (l.length - (i + 1)) = l.length := by omega
   rw [el, List.take_length] at h4 h5;refine ⟨(a, ((l.filter fun x => !gB f x).length : Int)), ?_, h2, rfl, h4, h5⟩;unfold A4;simp only [AJ]
   rw [el, bg (by omega), bc, List.take_length]) (n := FUEL) (by unfold FUEL; omega)
 rw [e, ba];obtain ⟨a, p⟩ := o;obtain ⟨r1, r2, r3, r4⟩ := hR;simp only at r1 r2 r4 ⊢;subst r2;rw [GJ (by omega), ba];unfold ltL;rw [if_pos (by omega), ba, Int.toNat_natCast, r4]
def JP : List By8 := [104, 116, 116, 112, 58, 47, 47, 119, 119, 119, 46, 119, 51, 46, 111, 114, 103, 47, 88, 77, 76, 47, 49, 57, 57, 56, 47, 110, 97, 109, 101, 115, 112, 97, 99, 101]
def PX (p : Ab) : List (List By8) := (Lib.compact (He (D4 p))).filter fun x => !(x == JP)
theorem PX_ss (p : Ab) : SS (PX p) := (Mh (D4 p)).1.filter _
theorem PX_mem (p : Ab) (x : List By8) : x ∈ PX p ↔ x ∈ D4 p /\ x ≠ JP := by
 unfold PX;rw [List.mem_filter, (Mh (D4 p)).2];simp
theorem OO (l : List (List By8)) : (Lib.compact (He l)).length <= l.length := by
 have := KN (He l)
 rwa [Kl] at this
theorem PX_len (p : Ab) : (PX p).length <= szN p := by
 have h1 := OO (D4 p);have h2 := HC p;have h3 : (PX p).length <= (Lib.compact (He (D4 p))).length := List.length_filter_le _ _;omega
theorem LB (p : Ab) (h : szN p <= 1049600) : CK p = some (PX p) := by
 have h1 := OO (D4 p);have h2 := HC p;unfold CK;have hd := WX (l := Lib.compact (He (D4 p))) (f := Ed) (by omega) (fun x _ => ⟨x == JP, rfl⟩);rw [Tj p h, ba, hd, ba];rfl
theorem Lr (p : Ab) (h : szN p <= 1049600) : Bg p = some (PX p) := by
 have h1 := OO (D4 p);have h2 := HC p;unfold Bg AJ;dsimp only;rw [TX p h, ba];unfold PX;generalize Lib.compact (He (D4 p)) = L at h1 ⊢;obtain ⟨o, ho, hr⟩ := AC (b := B5 L) (fun i s => s = ((L.take i).filter (fun x => !(x == JP)), (i : Int))) (fun o => o = L.filter (fun x => !(x == JP))) L.length (x0 := ([], (0 : Int))) (by simp)
  (fun i s rec hi hs => by
   subst hs;left;refine ⟨((L.take (i + 1)).filter (fun x => !(x == JP)), ((i + 1 : Nat) : Int)), ?_, rfl⟩;have hl : ((L.take i).filter (fun x => !(x == JP))).length <= i := Nat.le_trans (List.length_filter_le _ _) (by simp; omega);rw [Gc hi, List.filter_append, List.filter_cons, List.filter_nil];unfold B5 AJ;dsimp only;rw [bf (by omega), bb, Av hi, ba, w64 (by omega) (by omega)];by_cases hx : (!(L[i] == JP)) = true
   ·rw [if_pos hx, FA (by simp only [bi, bj]; omega) (by simp only [bi, bj]; omega), ba];unfold JP at hx ⊢;rw [hx, bb];rfl
   ·rw [if_neg hx, List.append_nil];have hx' : (!(L[i] == JP)) = false := by simpa using hx
    unfold JP at hx' ⊢;rw [hx', bc]
    rfl)
  (fun s rec hs => ⟨L.filter (fun x => !(x == JP)), by
   subst hs;unfold B5;dsimp only
   rw [bg (by omega), bc, List.take_length], rfl⟩) (n := FUEL) (by unfold FUEL; omega)
 rw [ho, ba, hr]
end Go.Proofs.YtjofelloaofooaaGreatDoor
