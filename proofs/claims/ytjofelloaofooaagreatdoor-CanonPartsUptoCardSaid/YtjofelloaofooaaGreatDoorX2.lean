/- Canon: digits, what is escaped, what is put. No condition. -/
import Derived.Lib.ItoaLen
import Derived.Test.YtjofelloaofooaaGreatDoorX4
set_option linter.unusedSimpArgs false
set_option linter.unusedVariables false
namespace Go.Proofs.YtjofelloaofooaaGreatDoor
theorem VQ (v k : Nat) : Int.tmod (v : Int) (k : Int) = ((v % k : Nat) : Int) := by rw [Int.tmod_eq_emod_of_nonneg (by omega)]; rfl
theorem WW : ∀ q : Nat, q < 10 -> u8 (IntKind.wrap .u8 (IntKind.wrap .i64 ((48 : Int) + (q : Int)))) = some (UInt8.ofNat (48 + q))
 | 0, _ => rfl
 | 1, _ => rfl
 | 2, _ => rfl
 | 3, _ => rfl
 | 4, _ => rfl
 | 5, _ => rfl
 | 6, _ => rfl
 | 7, _ => rfl
 | 8, _ => rfl
 | 9, _ => rfl
 | q + 10, h => by omega
theorem QB (u : Nat) (h : u <= 2097152) : (Lib.decDigits u).length <= 21 := by
 have := Lib.itoa_length_le (u : Int) (by omega) (by omega)
 rwa [Lib.itoa_nonneg] at this
theorem Vv (u : Nat) (h1 : 1 <= u) (h : u <= 2097152) : CF (u : Int) = some (Lib.decDigits u) := by
 have hu := QB u h;obtain ⟨o, h1, ht⟩ := Ax (b := B3)
  (fun i x => ∃ (v : Nat) (t : List By8), x = ((v : Int), t) /\ v + i <= u /\ (if v = 0 then t else Lib.decDigits v ++ t) = Lib.decDigits u)
  (fun o => o = Lib.decDigits u) u (x0 := ((u : Int), [])) ⟨u, [], rfl, by omega, by rw [if_neg (by omega)]; simp⟩
  (fun i x rec hi ⟨v, t, hx, hv, ht⟩ => by
   subst hx;unfold B3;dsimp only;by_cases h9 : 0 < v
   ·left;rw [if_neg (by omega)] at ht;have hl : t.length <= 21 := by
     have := congrArg List.length ht;rw [bm] at this; omega
    refine ⟨(((v / 10 : Nat) : Int), [UInt8.ofNat (48 + v % 10)] ++ t), ?_, v / 10, _, rfl, by omega, ?_⟩
    ·rw [bf (by omega), bb, show Int.tmod (v : Int) 10 = ((v % 10 : Nat) : Int) from VQ v 10, WW _ (by omega), ba];have hc : cat [UInt8.ofNat (48 + v % 10)] t = some ([UInt8.ofNat (48 + v % 10)] ++ t) := by unfold cat; rw [if_pos (by simp; omega)]
     rw [hc, ba, show Int.tdiv (v : Int) 10 = ((v / 10 : Nat) : Int) by rw [Int.tdiv_eq_ediv_of_nonneg (by omega)]; simp, w64 (by omega) (by omega)]
    ·rw [<- ht];by_cases h10 : v < 10
     ·rw [if_pos (by omega)]
      conv => rhs; rw [Lib.decDigits, dif_pos h10]
      rw [Nat.mod_eq_of_lt h10]
     ·rw [if_neg (by omega)]
      conv => rhs; rw [Lib.decDigits, dif_neg h10]
      simp
   ·right;have hv0 : v = 0 := by omega
    subst hv0;refine ⟨t, ?_, by simpa using ht⟩
    rw [bg (by omega), bc])
  (fun x rec ⟨v, t, hx, hv, ht⟩ => ⟨t, by
   subst hx;unfold B3;dsimp only;rw [bg (by omega), bc], by
   have hv0 : v = 0 := by omega
   subst hv0
   simpa using ht⟩) (n := FUEL) (by unfold FUEL; omega)
 unfold CF AA;dsimp only;rw [h1, ba, ht]
theorem Y3 (p0 p1 : List By8) (p2 : List (List By8)) (i : Int) (c : By8) (h : idx p0 i = some c) : AC p0 p1 p2 i = AC [c] p1 p2 0 := by
 funext rec x;obtain ⟨a, b⟩ := x;unfold AC;have h0 : idx [c] (0 : Int) = some c := rfl;simp only [h, h0]
def spT : List By8 := [38, 60, 62, 13]
def reT : List (List By8) := [[38, 97, 109, 112, 59], [38, 108, 116, 59], [38, 103, 116, 59], [38, 35, 49, 51, 59], [], []]
def spQ : List By8 := [38, 60, 34, 9, 10, 13]
def reQ : List (List By8) := [[38, 97, 109, 112, 59], [38, 108, 116, 59], [38, 113, 117, 111, 116, 59], [38, 35, 57, 59], [38, 35, 49, 48, 59], [38, 35, 49, 51, 59]]
theorem Qy : ((List.range 256).all fun n => iter (AC [UInt8.ofNat n] spT reT 0) FUEL ([UInt8.ofNat n], (0 : Int)) == some (escT (UInt8.ofNat n))) = true := by kernel_rfl
theorem Q4 : ((List.range 256).all fun n => iter (AC [UInt8.ofNat n] spQ reQ 0) FUEL ([UInt8.ofNat n], (0 : Int)) == some (escQ (UInt8.ofNat n))) = true := by kernel_rfl
theorem Qg (c : By8) : iter (AC [c] spT reT 0) FUEL ([c], (0 : Int)) = some (escT c) := by
 have := List.all_eq_true.1 Qy c.toNat (by simp; exact c.toNat_lt);simpa using this
theorem Q0 (c : By8) : iter (AC [c] spQ reQ 0) FUEL ([c], (0 : Int)) = some (escQ c) := by
 have := List.all_eq_true.1 Q4 c.toNat (by simp; exact c.toNat_lt);simpa using this
theorem MG (c : By8) : (escT c).length <= 6 := by unfold escT; split <;> simp
theorem JK (c : By8) : (escQ c).length <= 6 := by unfold escQ; split <;> simp
theorem Hs {f : By8 -> List By8} (hf : ∀ c, (f c).length <= 6) : ∀ l : List By8, (l.flatMap f).length <= 6 * l.length
 | [] => by simp
 | c :: l => by have := Hs hf l; have := hf c; simp only [List.flatMap_cons, bm, bi]; omega
theorem Q6 {l : List By8} {i : Nat} (h : i < l.length) (f : By8 -> List By8) : (l.take (i + 1)).flatMap f = (l.take i).flatMap f ++ f l[i] := by
 rw [List.take_add_one, List.getElem?_eq_getElem h]; simp only [Option.toList_some, List.flatMap_append, List.flatMap_cons, List.flatMap_nil, List.append_nil]
theorem U1 (p sp : List By8) (re : List (List By8)) (f : By8 -> List By8) (hf : ∀ c, (f c).length <= 6) (h1 : ∀ c, iter (AC [c] sp re 0) FUEL ([c], (0 : Int)) = some (f c)) (hp : p.length <= 1049600) :
  Cm p sp re = some (p.flatMap f) := by
 obtain ⟨o, ho, hr⟩ := Ax (b := BM p sp re) (fun i x => x = ((p.take i).flatMap f, (i : Int))) (fun o => o = p.flatMap f) p.length (x0 := ([], (0 : Int))) (by simp)
  (fun i x rec hi hx => by
   subst hx;left;refine ⟨((p.take (i + 1)).flatMap f, ((i + 1 : Nat) : Int)), ?_, rfl⟩;have hs : slc p (i : Int) (IntKind.wrap .i64 ((i : Int) + 1)) = some [p[i]] := by
    rw [w64 (by omega) (by omega)];unfold slc;rw [if_pos (by omega)];have e1 : ((i : Int) + 1).toNat - (i : Int).toNat = 1 := by omega
    rw [e1, Int.toNat_natCast, List.drop_eq_getElem_cons hi]; rfl
   have hc := Hs hf (p.take i);have hc2 := hf p[i];have hl : (p.take i).length <= 1049600 := by rw [List.length_take]; omega
   unfold BM AA;dsimp only;rw [bf (by omega), bb, hs, ba, Y3 p sp re (i : Int) p[i] (Ao hi), h1, ba, DP (by omega), ba, Q6 hi, w64 (by omega) (by omega)]
   rfl)
  (fun x rec hx => ⟨p.flatMap f, by
   subst hx;unfold BM;dsimp only
   rw [bg (by omega), bc, List.take_length], rfl⟩) (n := FUEL) (by unfold FUEL; omega)
 unfold Cm AA;dsimp only;rw [ho, ba, hr]
theorem Uo (p : List By8) (hp : p.length <= 1049600) : DS p = some (p.flatMap escT) := by
 unfold DS;have := U1 p spT reT escT MG Qg hp;unfold spT reT at this;rw [this]; rfl
theorem OD (p : List By8) (hp : p.length <= 1049600) : CO p = some (p.flatMap escQ) := by
 unfold CO;have := U1 p spQ reQ escQ JK Q0 hp;unfold spQ reQ at this;rw [this]; rfl
theorem U8 (p : List By8) (hp : p.length <= 1049600) : L_referText p = some (p.flatMap escT) := by unfold L_referText; rw [if_pos (by omega)]
theorem PS (p : List By8) (hp : p.length <= 1049600) : L_referQuote p = some (p.flatMap escQ) := by unfold L_referQuote; rw [if_pos (by omega)]
theorem Ih {n : Nat} (h : n <= 140737488355328) : gdL n = some () := by unfold gdL; rw [if_pos h]
theorem OU {l : List (List By8)} {i : Nat} (h : i < l.length) : (l.take (i + 1)).flatten = (l.take i).flatten ++ l[i] := by
 rw [List.take_add_one, List.getElem?_eq_getElem h]; simp only [Option.toList_some, List.flatten_append, List.flatten_cons, List.flatten_nil, List.append_nil]
theorem TK (w : Ah) (L : List (List By8)) (hL : L.length <= 1000) (h : w.Builder.buf.length + L.flatten.length <= 140737488355328) : Ar w L = some (w.Builder.buf ++ L.flatten) := by
 obtain ⟨o, ho, hr⟩ := Ax (b := BR L) (fun i x => x = (w.Builder.buf ++ (L.take i).flatten, (i : Int))) (fun o => o = w.Builder.buf ++ L.flatten) L.length (x0 := (w.Builder.buf, (0 : Int))) (by simp)
  (fun i x rec hi hx => by
   subst hx;left;refine ⟨(w.Builder.buf ++ (L.take (i + 1)).flatten, ((i + 1 : Nat) : Int)), ?_, rfl⟩;have hle : (L.take (i + 1)).flatten.length <= L.flatten.length := by
    have := congrArg (fun l => (List.flatten l).length) (List.take_append_drop (i + 1) L);simp only [List.flatten_append, bm] at this;omega
   rw [OU hi, bm] at hle;unfold BR;dsimp only;rw [bf (by omega), bb, Ao hi, ba, Ih (by rw [bm]; omega), ba, ba, OU hi, w64 (by omega) (by omega), List.append_assoc]
   rfl)
  (fun x rec hx => ⟨w.Builder.buf ++ L.flatten, by
   subst hx;unfold BR;dsimp only
   rw [bg (by omega), bc, List.take_length], rfl⟩) (n := FUEL) (by unfold FUEL; omega)
 unfold Ar;rw [ho, ba, hr]

set_option linter.unusedSimpArgs false
set_option linter.unusedVariables false
def Kt (s : List By8) : Bool := !(s == ([] : List By8))
def G5 (l : List Ae) : List (List By8) := (l.map fun a => a.Name.URI).filter Kt
def Hq (n : Aa) : List (List By8) := ([n.Name.URI] ++ n.Attrs.map fun a => a.Name.URI).filter Kt
def CK (p : Aa) : List (List By8) := (AD p).flatMap Hq
def E5 (l : List Aa) : List (List By8) := (B4 l).flatMap Hq
theorem Gm (p : Aa) : CK p = Hq p ++ E5 p.Kids := by unfold CK E5; rw [B1, List.flatMap_cons]
theorem N1 {l : List Aa} {i : Nat} (h : i < l.length) : E5 (l.take (i + 1)) = E5 (l.take i) ++ CK l[i] := by unfold E5 CK; rw [HM h, List.flatMap_append]
theorem Qw (n : Aa) : Hq n = (if Kt n.Name.URI then [n.Name.URI] else []) ++ G5 n.Attrs := by
 unfold Hq G5;rw [List.filter_append];congr 1;by_cases h : Kt n.Name.URI <;> simp [h]
theorem Nn {l : List Ae} {i : Nat} (h : i < l.length) : G5 (l.take (i + 1)) = G5 (l.take i) ++ (if Kt l[i].Name.URI then [l[i].Name.URI] else []) := by
 unfold G5;rw [List.take_add_one, List.getElem?_eq_getElem h, List.map_append, List.filter_append];congr 1;by_cases h : Kt l[i].Name.URI <;> simp [h]
theorem KY (l : List Ae) : (G5 l).length <= l.length := by unfold G5; exact Nat.le_trans (List.length_filter_le _ _) (by simp)
theorem OG (n : Aa) : (Hq n).length <= 1 + n.Attrs.length := by unfold Hq; exact Nat.le_trans (List.length_filter_le _ _) (by simp; omega)
theorem LC (x : Aa) : 1 + x.Attrs.length + Fa x.Kids <= szN x := by
 cases x with
 | mk K N A Ks T =>
  have h := Kr (fun x : Ae => ((((x.Name.URI.length + 1) + ((x.Name.Local.length + 1) + 0)) + 1) + ((x.Value.length + 1) + 0)) + 1) (fun x => by omega) A;simp only [szN, Aq];omega
mutual
theorem Ge : ∀ x : Aa, (CK x).length <= szN x
 | ⟨K, N, A, Kids, T⟩ => by
  have h1 := Iv Kids;have h2 := LC ⟨K, N, A, Kids, T⟩;have h3 := OG ⟨K, N, A, Kids, T⟩;rw [Gm, bm];simp only at h2 h3 h1 ⊢;omega
theorem Iv : ∀ l : List Aa, (E5 l).length <= Fa l
 | [] => by simp [E5, B4]
 | k :: l => by
  have h1 := Ge k;have h2 := Iv l;have e : E5 (k :: l) = CK k ++ E5 l := by unfold E5 CK; simp only [B4, List.flatMap_append]
  rw [e, bm];simp only [Fa];have : szN k = Aq k := rfl;omega
end
theorem PF {l : List Aa} {i : Nat} (hi : i < l.length) : Fa (l.take i) + szN l[i] <= Fa l := by
 have hs : ∀ (a b : List Aa), Fa (a ++ b) = Fa a + Fa b := fun a b => by simp [Hk]
 have e1 : l = l.take i ++ l[i] :: l.drop (i + 1) := by rw [<- List.drop_eq_getElem_cons hi, List.take_append_drop]
 have e2 : Fa l = Fa (l.take i) + (szN l[i] + Fa (l.drop (i + 1))) := by
  conv => lhs; rw [e1]
  rw [hs]; rfl
 omega
theorem M9 : ∀ (n : Nat) (p : Aa) (l : List (List By8)), szN p < n -> l.length + szN p <= 2097152 -> iter Bf n (p, l) = some (l ++ CK p)
 | 0, p, l, h, _ => by omega
 | n + 1, p, l, h, hl => by
  have hk := DO p;have ho := LC p;have ih := fun q m => M9 n q m;rw [Dc];generalize iter Bf n = rc at ih ⊢;unfold Bf;simp only [AA];have key : ∀ m : List (List By8), m = l ++ (if Kt p.Name.URI then [p.Name.URI] else []) -> ((iter (Cw p) FUEL (m, (0 : Int))).bind fun o => (iter (Cx p rc) FUEL (o, (0 : Int))).bind fun o => some o) = some (l ++ CK p) := by
   intro m hm;have hml : m.length <= l.length + 1 := by subst hm; split <;> simp
   obtain ⟨o1, e1, hR1⟩ := Ax (b := Cw p) (fun i s => s = (m ++ G5 (p.Attrs.take i), (i : Int))) (fun o => o = m ++ G5 p.Attrs) p.Attrs.length (x0 := (m, (0 : Int))) (by simp [G5]) (by
    rintro i _ rec hi rfl;left;have ha := KY (p.Attrs.take i);have ha2 : (p.Attrs.take i).length <= p.Attrs.length := by simp; omega
    refine ⟨_, ?_, rfl⟩;unfold Cw AA;dsimp only;rw [bf (by omega), bb, Ao hi, ba, Nn hi, w64 (by omega) (by omega)];by_cases hf : Kt p.Attrs[i].Name.URI
    ·have hf' : (!(p.Attrs[i].Name.URI == ([] : List By8))) = true := hf;rw [hf', bb, EE (by simp only [bm, bi, bj]; omega) (by simp only [bm, bi, bj]; omega), ba, ba, if_pos hf, List.append_assoc];rfl
    ·have hf' : (!(p.Attrs[i].Name.URI == ([] : List By8))) = false := by simpa [Kt] using hf
     rw [hf', bc, if_neg hf, List.append_nil]
     rfl) (by
    rintro _ rec rfl;refine ⟨_, ?_, rfl⟩;unfold Cw;dsimp only
    rw [bg (by omega), bc, List.take_length]) (n := FUEL) (by unfold FUEL; omega)
   rw [e1, ba, hR1];have hA := KY p.Attrs
   obtain ⟨o, e, hR⟩ := Ax (b := Cx p rc) (fun i s => s = (m ++ G5 p.Attrs ++ E5 (p.Kids.take i), (i : Int))) (fun o => o = m ++ G5 p.Attrs ++ E5 p.Kids) p.Kids.length (x0 := (m ++ G5 p.Attrs, (0 : Int))) (by simp [E5, B4]) (by
    rintro i _ rec hi rfl;left;have h1 := PF hi;have h2 := Iv (p.Kids.take i);refine ⟨_, ?_, rfl⟩;unfold Cx;dsimp only;rw [bf (by have := Br p; omega), bb, Ao hi, ba, ih p.Kids[i] _ (by omega) (by simp only [bm]; omega), ba, w64 (by have := Br p; omega) (by have := Br p; omega), N1 hi, List.append_assoc (m ++ G5 p.Attrs)]
    rfl) (by
    rintro _ rec rfl;refine ⟨_, ?_, rfl⟩;unfold Cx;dsimp only
    rw [bg (by omega), bc, List.take_length]) (n := FUEL) (by have := Br p; unfold FUEL; omega)
   rw [e, ba, hR, Gm, Qw, hm];simp only [List.append_assoc]
  by_cases hf : Kt p.Name.URI
  ·have hf' : (!(p.Name.URI == ([] : List By8))) = true := hf;rw [hf', bb, EE (by simp only [bi, bj]; omega) (by simp only [bi, bj]; omega), ba, ba];exact key _ (by rw [if_pos hf])
  ·have hf' : (!(p.Name.URI == ([] : List By8))) = false := by simpa [Kt] using hf
   rw [hf', bc];exact key _ (by rw [if_neg hf, List.append_nil])
theorem Qu (p : Aa) (h : szN p <= 1049600) : C7 p = some (Lib.compact (FN (CK p))) := by
 have hl := Ge p;have e : DB p [] = some (CK p) := by
  unfold DB;have := M9 FUEL p [] (by unfold FUEL; omega) (by simp; omega);simpa using this
 unfold C7;rw [e, ba, Ih (by omega), ba, ba, Ih (by rw [Ik]; omega), ba, ba]

set_option linter.unusedSimpArgs false
set_option linter.unusedVariables false
theorem F9 : ∀ {a b : List By8}, D6 a b = 0 -> a = b
 | [], [], _ => rfl
 | [], _ :: _, h => by simp [D6] at h
 | _ :: _, [], h => by simp [D6] at h
 | a :: x, b :: y, h => by
  unfold D6 at h;split at h
  ·exact absurd h (by assumption)
  ·rename_i h1;have e := PC (a := a.toNat) (b := b.toNat) (by omega);have e1 : a = b := UInt8.toNat_inj.1 (by omega);rw [e1, F9 h]
theorem Ie (a b : List By8) : Op.bytesLess a b = decide (D6 a b < 0) := by
 have h := Ho a b;have r := CR.rng a b;by_cases h1 : Op.bytesLess a b = true
 ·rw [if_pos h1] at h;rw [h1, <- h]; rfl
 ·have h1' : Op.bytesLess a b = false := by simpa using h1
  rw [if_neg h1] at h;rw [h1'];have : ¬ D6 a b < 0 := by rw [<- h]; split <;> simp
  simp [this]
theorem MK (a b : List By8) : decide (a <= b) = decide (D6 a b <= 0) := by
 have h1 := Ie b a;rw [bytesLess_eq] at h1;have h2 := CR.anti a b;have h3 : (b < a) ↔ D6 b a < 0 := by simpa using h1
 have h4 : (a <= b) ↔ ¬ (b < a) := List.not_lt.symm;by_cases h : D6 a b <= 0
 ·rw [bf h, bf (h4.2 (fun hc => by have := h3.1 hc; omega))]
 ·rw [bg h, bg (fun hc => h4.1 hc (h3.2 (by omega)))]
def SS (l : List (List By8)) : Prop := l.Pairwise fun a b => D6 a b < 0
theorem Vd {a b c : List By8} (h1 : D6 a b < 0) (h2 : D6 b c <= 0) : D6 a c < 0 := by
 have h := CR.trans a b c (by omega) h2;rcases Int.lt_or_eq_of_le h with h | h
 ·exact h
 ·have e := F9 h;subst e;have := CR.anti a b;omega
theorem Xd {a b c : List By8} (h1 : D6 a b <= 0) (h2 : D6 b c < 0) : D6 a c < 0 := by
 have h := CR.trans a b c h1 (by omega);rcases Int.lt_or_eq_of_le h with h | h
 ·exact h
 ·have e := F9 h;subst e;have := CR.anti a b;omega
theorem TQ {a b : List By8} (h : D6 a b < 0) : a ≠ b := fun e => by subst e; have := CR.refl a; omega
theorem U6 : ∀ {l m : List (List By8)}, SS l -> SS m -> (∀ x, x ∈ l ↔ x ∈ m) -> l = m
 | [], [], _, _, _ => rfl
 | [], y :: m, _, _, h => by have := (h y).2 List.mem_cons_self; cases this
 | x :: l, [], _, _, h => by have := (h x).1 List.mem_cons_self; cases this
 | x :: l, y :: m, h1, h2, h => by
  obtain ⟨a1, a2⟩ := List.pairwise_cons.1 h1;obtain ⟨b1, b2⟩ := List.pairwise_cons.1 h2;have hxy : x = y := by
   rcases List.mem_cons.1 ((h x).1 List.mem_cons_self) with e | e
   ·exact e
   ·rcases List.mem_cons.1 ((h y).2 List.mem_cons_self) with e' | e'
    ·exact e'.symm
    ·have c1 := b1 x e;have c2 := a1 y e';have := CR.anti x y;omega
  subst hxy;rw [U6 a2 b2 fun z => ⟨fun hz => ?_, fun hz => ?_⟩]
  ·rcases List.mem_cons.1 ((h z).1 (List.mem_cons_of_mem _ hz)) with e | e
   ·exact absurd e (fun e => TQ (a1 z hz) e.symm)
   ·exact e
  ·rcases List.mem_cons.1 ((h z).2 (List.mem_cons_of_mem _ hz)) with e | e
   ·exact absurd e (fun e => TQ (b1 z hz) e.symm)
   ·exact e
theorem K4 (d : Array (List By8)) (hd : ∀ i j, i <= j -> j < d.size -> D6 d[i]! d[j]! <= 0) : ∀ m, m <= d.size -> SS (Lib.compactUpTo d m) /\ ∀ x, x ∈ Lib.compactUpTo d m ↔ ∃ j, j < m /\ d[j]! = x
 | 0, _ => ⟨by unfold Lib.compactUpTo; exact .nil, fun x => by unfold Lib.compactUpTo; simp⟩
 | m + 1, hm => by
  obtain ⟨h1, h2⟩ := K4 d hd m (by omega);rw [Lib.compactUpTo_succ];by_cases hk : Lib.keeps d m = true
  ·rw [if_pos hk];refine ⟨List.pairwise_append.2 ⟨h1, List.pairwise_singleton _ _, fun a ha b hb => ?_⟩, fun x => ?_⟩
   ·rw [List.mem_singleton] at hb;subst hb;obtain ⟨j, hj, rfl⟩ := (h2 a).1 ha;have hk' : m = 0 \/ d[m]! ≠ d[m - 1]! := by unfold Lib.keeps at hk; exact of_decide_eq_true hk
    have hk2 : d[m]! ≠ d[m - 1]! := hk'.resolve_left (by omega);have c1 := hd (m - 1) m (by omega) (by omega);have c2 := hd j (m - 1) (by omega) (by omega);refine Xd c2 ?_;rcases Int.lt_or_eq_of_le c1 with h | h
    ·exact h
    ·exact absurd (F9 h).symm hk2
   ·rw [List.mem_append, List.mem_singleton, h2];constructor
    ·rintro (⟨j, hj, e⟩ | e)
     ·exact ⟨j, by omega, e⟩
     ·exact ⟨m, by omega, e.symm⟩
    ·rintro ⟨j, hj, e⟩;by_cases e' : j = m
     ·subst e'; exact .inr e.symm
     ·exact .inl ⟨j, by omega, e⟩
  ·rw [if_neg hk, List.append_nil];refine ⟨h1, fun x => ?_⟩;rw [h2];have hk' : ¬ (m = 0 \/ d[m]! ≠ d[m - 1]!) := by unfold Lib.keeps at hk; exact fun h => hk (bf h)
   have hk2 : d[m]! = d[m - 1]! := Classical.byContradiction fun h => hk' (.inr h);have hk3 : m ≠ 0 := fun h => hk' (.inl h);constructor
   ·rintro ⟨j, hj, e⟩; exact ⟨j, by omega, e⟩
   ·rintro ⟨j, hj, e⟩;by_cases e' : j = m
    ·subst e'; exact ⟨j - 1, by omega, by rw [<- e, hk2]⟩
    ·exact ⟨j, by omega, e⟩
theorem Oq (l : List (List By8)) : (FN l).Pairwise fun a b => D6 a b <= 0 := by
 have h := List.pairwise_mergeSort (le := fun x y : List By8 => decide (x <= y)) (fun a b c h1 h2 => by
  rw [MK] at h1 h2 ⊢
  exact bf (CR.trans a b c (of_decide_eq_true h1) (of_decide_eq_true h2))) (fun a b => by
  rw [MK, MK];have := CR.anti a b;by_cases hc : D6 a b <= 0
  ·simp [hc]
  ·have : D6 b a <= 0 := by omega
   simp [this]) l
 exact h.imp fun {a b} h => by
  have h' : decide (a <= b) = true := h;rw [MK] at h';exact of_decide_eq_true h'
theorem JY (l : List (List By8)) : SS (Lib.compact (FN l)) /\ ∀ x, x ∈ Lib.compact (FN l) ↔ x ∈ l := by
 have hp := Oq l
 have h := K4 (FN l).toArray (fun i j hij hj => by
  have hj' : j < (FN l).length := by simpa using hj
  have e1 : (FN l).toArray[i]! = (FN l)[i] := by rw [getElem!_pos _ i (by simp; omega)]; simp
  have e2 : (FN l).toArray[j]! = (FN l)[j] := by rw [getElem!_pos _ j (by simpa using hj')]; simp
  rw [e1, e2];by_cases e : i = j
  ·subst e; have := CR.refl (FN l)[i]; omega
  ·exact List.pairwise_iff_getElem.1 hp i j (by omega) hj' (by omega)) (FN l).length (by simp)
 refine ⟨h.1, fun x => ?_⟩;show x ∈ Lib.compactUpTo (FN l).toArray (FN l).length ↔ _;rw [h.2];have hm : x ∈ FN l ↔ x ∈ l := by unfold FN; exact List.mem_mergeSort
 rw [<- hm, List.mem_iff_getElem];constructor
 ·rintro ⟨j, hj, e⟩;refine ⟨j, hj, ?_⟩;rw [<- e, getElem!_pos _ j (by simpa using hj)]; simp
 ·rintro ⟨j, hj, e⟩;refine ⟨j, hj, ?_⟩;rw [<- e, getElem!_pos _ j (by simpa using hj)]; simp
def LN (x : List By8) : List (List By8) -> List (List By8)
 | [] => [x]
 | y :: l => if D6 y x < 0 then y :: LN x l else if y = x then y :: l else x :: y :: l
theorem JF (x : List By8) : ∀ (l : List (List By8)) (z : List By8), z ∈ LN x l ↔ z = x \/ z ∈ l
 | [], z => by simp [LN]
 | y :: l, z => by
  unfold LN;split
  ·rw [List.mem_cons, JF x l z, List.mem_cons];constructor
   ·rintro (h | h | h) <;> simp [h]
   ·rintro (h | h | h) <;> simp [h]
  ·split
   ·rename_i h; subst h;rw [List.mem_cons];constructor
    ·exact .inr
    ·rintro (h | h)
     ·exact .inl h
     ·exact h
   ·rw [List.mem_cons]
theorem PH (x : List By8) : ∀ (l : List (List By8)), SS l -> SS (LN x l)
 | [], _ => List.pairwise_singleton _ _
 | y :: l, h => by
  obtain ⟨h1, h2⟩ := List.pairwise_cons.1 h;unfold LN;split
  ·rename_i hc;refine .cons (fun z hz => ?_) (PH x l h2);rcases (JF x l z).1 hz with e | e
   ·subst e; exact hc
   ·exact h1 z e
  ·rename_i hc;split
   ·exact h
   ·rename_i hne;have hxy : D6 x y < 0 := by
     have a := CR.anti y x;rcases Int.lt_or_eq_of_le (show D6 x y <= 0 by omega) with h | h
     ·exact h
     ·exact absurd (F9 h).symm hne
    refine .cons (fun z hz => ?_) h;rcases List.mem_cons.1 hz with e | e
    ·subst e; exact hxy
    ·exact Vd hxy (by have := h1 z e; omega)
theorem My (x : List By8) : ∀ l : List (List By8), (LN x l).length <= l.length + 1
 | [] => by simp [LN]
 | y :: l => by
  unfold LN;split
  ·have := My x l; simp only [bi]; omega
  ·split <;> simp
def Dk (x : List By8) : List (List By8) -> Nat
 | [] => 0
 | y :: l => if D6 y x < 0 then Dk x l + 1 else 0
theorem GX (x : List By8) : ∀ l : List (List By8), Dk x l <= l.length
 | [] => by simp [Dk]
 | y :: l => by
  unfold Dk;split
  ·have := GX x l; simp only [bi]; omega
  ·exact Nat.zero_le _
theorem IF (x : List By8) : ∀ (l : List (List By8)) (i : Nat) (h : i < l.length), i < Dk x l -> D6 l[i] x < 0
 | y :: l, 0, h, hi => by
  unfold Dk at hi;split at hi
  ·assumption
  ·omega
 | y :: l, i + 1, h, hi => by
  unfold Dk at hi;split at hi
  ·exact IF x l i (by simpa using h) (by omega)
  ·omega
theorem Kk (x : List By8) : ∀ (l : List (List By8)) (h : Dk x l < l.length), ¬ D6 l[Dk x l] x < 0
 | y :: l, h => by
  by_cases hc : D6 y x < 0
  ·have e : Dk x (y :: l) = Dk x l + 1 := by rw [Dk, if_pos hc]
   have h' : Dk x l < l.length := by rw [e] at h; simpa using h
   have := Kk x l h';simpa only [e, List.getElem_cons_succ] using this
  ·have e : Dk x (y :: l) = 0 := by rw [Dk, if_neg hc]
   simpa only [e, List.getElem_cons_zero] using hc
theorem MN (x : List By8) : ∀ l : List (List By8), LN x l = if h : Dk x l < l.length then (if l[Dk x l] = x then l else l.take (Dk x l) ++ [x] ++ l.drop (Dk x l)) else l.take (Dk x l) ++ [x] ++ l.drop (Dk x l)
 | [] => by simp [LN, Dk]
 | y :: l => by
  have ih := MN x l;by_cases hc : D6 y x < 0
  ·have e : Dk x (y :: l) = Dk x l + 1 := by rw [Dk, if_pos hc]
   rw [LN, if_pos hc, ih];by_cases hl : Dk x l < l.length
   ·rw [dif_pos hl, dif_pos (by rw [e]; simpa using hl)];simp only [e, List.getElem_cons_succ, List.take_succ_cons, List.drop_succ_cons];split <;> rfl
   ·rw [dif_neg hl, dif_neg (by rw [e]; simpa using hl)];simp only [e, List.take_succ_cons, List.drop_succ_cons];rfl
  ·have e : Dk x (y :: l) = 0 := by rw [Dk, if_neg hc]
   rw [LN, if_neg hc, dif_pos (by rw [e]; simp)];simp only [e, List.getElem_cons_zero, List.take_zero, List.drop_zero, List.nil_append];rfl

set_option linter.unusedSimpArgs false
set_option linter.unusedVariables false
def Kx (n : Aa) : List (List By8) := [n.Name.URI] ++ n.Attrs.map fun a => a.Name.URI
def E1 (l : List (List By8)) (x : List By8) : List (List By8) := if Kt x then LN x l else l
theorem PA (l : List (List By8)) (x : List By8) : (E1 l x).length <= l.length + 1 := by
 unfold E1;split
 ·exact My x l
 ·omega
theorem JJ : ∀ (xs l : List (List By8)), (xs.foldl E1 l).length <= l.length + xs.length
 | [], l => by simp
 | x :: xs, l => by have := JJ xs (E1 l x); have := PA l x; simp only [List.foldl_cons, bi]; omega
theorem Pl : ∀ (xs l : List (List By8)), SS l -> SS (xs.foldl E1 l)
 | [], l, h => h
 | x :: xs, l, h => Pl xs _ (by unfold E1; split; exact PH x l h; exact h)
theorem M3 : ∀ (xs l : List (List By8)) (z : List By8), z ∈ xs.foldl E1 l ↔ z ∈ l \/ z ∈ xs.filter Kt
 | [], l, z => by simp
 | x :: xs, l, z => by
  rw [List.foldl_cons, M3 xs, List.filter_cons];unfold E1;by_cases h : Kt x
  ·rw [if_pos h, if_pos h, JF, List.mem_cons];constructor
   ·rintro ((h | h) | h) <;> simp [h]
   ·rintro (h | h | h) <;> simp [h]
  ·rw [if_neg h, if_neg h]
theorem FF {α : Type} {l : List α} {i : Nat} (h : i < l.length) : l.take (i + 1) = l.take i ++ [l[i]] := by
 rw [List.take_add_one, List.getElem?_eq_getElem h]; simp only [Option.toList_some]
theorem Zo (a : List (List By8)) (x : List By8) (ha : a.length <= 4194304) : iter (Bo a x) FUEL (0 : Int) = some (Dk x a : Int) := by
 obtain ⟨o, ho, hr⟩ := Ax (b := Bo a x) (fun i s => s = (i : Int) /\ i <= Dk x a) (fun o => o = (Dk x a : Int)) (Dk x a) (x0 := (0 : Int)) ⟨rfl, by omega⟩
  (fun i s rec hi ⟨hs, hp⟩ => by
   subst hs;left;have hl := GX x a;have hlt : i < a.length := by omega
   refine ⟨((i + 1 : Nat) : Int), ?_, rfl, by omega⟩;unfold Bo AA;dsimp only;rw [bf (by omega), bb, Ao hlt, ba, Ie, bf (IF x a i hlt hi), bb, w64 (by omega) (by omega)]
   rfl)
  (fun s rec ⟨hs, hp⟩ => ⟨(Dk x a : Int), by
   subst hs;unfold Bo AA;dsimp only;by_cases hlt : Dk x a < a.length
   ·rw [bf (by omega), bb, Ao hlt, ba, Ie, bg (Kk x a hlt), bc]
   ·rw [bg (by omega), bc, bc], rfl⟩) (n := FUEL) (by have := GX x a; unfold FUEL; omega)
 rw [ho, hr]
theorem Zb (xs a : List (List By8)) (h : a.length + xs.length <= 2097152) : iter (Bm xs) FUEL (a, (0 : Int)) = some (xs.foldl E1 a) := by
 obtain ⟨o, ho, hr⟩ := Ax (b := Bm xs) (fun i s => s = ((xs.take i).foldl E1 a, (i : Int))) (fun o => o = xs.foldl E1 a) xs.length (x0 := (a, (0 : Int))) (by simp)
  (fun i s rec hi hs => by
   subst hs;left;have hl := JJ (xs.take i) a;have hl2 : (xs.take i).length <= xs.length := by simp; omega
   refine ⟨((xs.take (i + 1)).foldl E1 a, ((i + 1 : Nat) : Int)), ?_, rfl⟩;rw [FF hi, List.foldl_append, List.foldl_cons, List.foldl_nil];generalize (xs.take i).foldl E1 a = m at hl;have hp := GX xs[i] m;unfold Bm AA;dsimp only;rw [bf (by omega), bb, Ao hi, ba, Zo m xs[i] (by omega), ba, w64 (by omega) (by omega)];by_cases hf : Kt xs[i]
   ·have hf' : (!(xs[i] == ([] : List By8))) = true := hf;rw [hf', bb];have hs1 : slc m (0 : Int) (Dk xs[i] m : Int) = some (m.take (Dk xs[i] m)) := QP hp;have hs2 : slc m (Dk xs[i] m : Int) (m.length : Int) = some (m.drop (Dk xs[i] m)) := FG hp;have hap : ∀ (u v : List (List By8)), u.length + v.length <= 4194304 -> app 16 u v = some (u ++ v) := fun u v huv => EE (by omega) (by omega)
    have hins : ∀ q : List (List By8) -> Option (List (List By8)), ((slc m (0 : Int) (Dk xs[i] m : Int)).bind fun x343 =>
      (slc m (Dk xs[i] m : Int) (m.length : Int)).bind fun x344 =>
      (app 16 ([] : List (List By8)) x343).bind fun _ =>
      (app 16 (([] : List (List By8)) ++ x343) [xs[i]]).bind fun _ =>
      (app 16 ((([] : List (List By8)) ++ x343) ++ [xs[i]]) x344).bind fun _ =>
      q (((([] : List (List By8)) ++ x343) ++ [xs[i]]) ++ x344)) = q (m.take (Dk xs[i] m) ++ [xs[i]] ++ m.drop (Dk xs[i] m)) := fun q => by
     rw [hs1, ba, hs2, ba, hap _ _ (by simp; omega), ba, hap _ _ (by simp; omega), ba, hap _ _ (by simp; omega), ba, List.nil_append]
    have hstep : E1 m xs[i] = LN xs[i] m := by unfold E1; rw [if_pos hf]
    rw [hstep, MN];by_cases hlt : Dk xs[i] m < m.length
    ·have hne : ((Dk xs[i] m : Int) == (m.length : Int)) = false := by simp; omega
     rw [hne, bc, Ao hlt, ba, dif_pos hlt];by_cases he : m[Dk xs[i] m] = xs[i]
     ·rw [if_pos he, he];have hb : (!(xs[i] == xs[i])) = false := by simp
      rw [hb, bc];rfl
     ·rw [if_neg he];have hb : (!(m[Dk xs[i] m] == xs[i])) = true := by simp [he]
      rw [hb, bb];exact hins fun z => rec (z, (i : Int) + 1)
    ·have hne : ((Dk xs[i] m : Int) == (m.length : Int)) = true := by simp; omega
     rw [hne, bb, bb, dif_neg hlt];exact hins fun z => rec (z, (i : Int) + 1)
   ·have hf' : (!(xs[i] == ([] : List By8))) = false := by simpa [Kt] using hf
    rw [hf', bc, bc];have hstep : E1 m xs[i] = m := by unfold E1; rw [if_neg hf]
    rw [hstep]
    rfl)
  (fun s rec hs => ⟨xs.foldl E1 a, by
   subst hs;unfold Bm;dsimp only
   rw [bg (by omega), bc, List.take_length], rfl⟩) (n := FUEL) (by unfold FUEL; omega)
 rw [ho, hr]
theorem ZZ (n : Aa) (h : n.Attrs.length <= 1049600) : iter (Bn n) FUEL ([n.Name.URI], (0 : Int)) = some (Kx n) := by
 obtain ⟨o, ho, hr⟩ := Ax (b := Bn n) (fun i s => s = ([n.Name.URI] ++ (n.Attrs.take i).map (fun a => a.Name.URI), (i : Int))) (fun o => o = Kx n) n.Attrs.length (x0 := ([n.Name.URI], (0 : Int))) (by simp)
  (fun i s rec hi hs => by
   subst hs;left;refine ⟨([n.Name.URI] ++ (n.Attrs.take (i + 1)).map (fun a => a.Name.URI), ((i + 1 : Nat) : Int)), ?_, rfl⟩;rw [FF hi, List.map_append];unfold Bn;dsimp only;rw [bf (by omega), bb, Ao hi, ba, EE (by simp; omega) (by simp; omega), ba, w64 (by omega) (by omega), List.append_assoc]
   rfl)
  (fun s rec hs => ⟨Kx n, by
   subst hs;unfold Bn Kx;dsimp only
   rw [bg (by omega), bc, List.take_length], rfl⟩) (n := FUEL) (by unfold FUEL; omega)
 rw [ho, hr]
mutual
theorem MU : ∀ x : Aa, ((AD x).flatMap Kx).length <= szN x
 | ⟨K, N, A, Kids, T⟩ => by
  have h1 := MY Kids;have h2 := LC ⟨K, N, A, Kids, T⟩;rw [B1, List.flatMap_cons, bm];have h3 : (Kx ⟨K, N, A, Kids, T⟩).length = 1 + A.length := by unfold Kx; simp; omega
  simp only at h2 h1 ⊢;omega
theorem MY : ∀ l : List Aa, ((B4 l).flatMap Kx).length <= Fa l
 | [] => by simp [B4]
 | k :: l => by
  have h1 := MU k;have h2 := MY l;simp only [B4, Fa, List.flatMap_append, bm];have : szN k = Aq k := rfl;omega
end
theorem Rg (p : Aa) (h : szN p <= 1049600) : Dy p = some (Lib.compact (FN (CK p))) := by
 have hraw := MU p;have hfl := Fu p;have hsz := FA p;have hres : ((AD p).flatMap Kx).foldl E1 [] = Lib.compact (FN (CK p)) := by
  obtain ⟨h1, h2⟩ := JY (CK p);refine U6 (Pl _ _ .nil) h1 fun z => ?_;rw [h2, M3];have : (List.flatMap Kx (AD p)).filter Kt = CK p := by
   unfold CK;rw [List.filter_flatMap];rfl
  rw [this];simp
 obtain ⟨o, ho, hr⟩ := Ax (b := B2 (AD p)) (fun i s => s = ((((AD p).take i).flatMap Kx).foldl E1 [], (i : Int))) (fun o => o = ((AD p).flatMap Kx).foldl E1 []) (AD p).length (x0 := ([], (0 : Int))) (by simp)
  (fun i s rec hi hs => by
   subst hs;left;refine ⟨(((((AD p).take (i + 1)).flatMap Kx).foldl E1 []), ((i + 1 : Nat) : Int)), ?_, rfl⟩;have hz := hsz _ (bn hi);have hat := CH (AD p)[i];have hle : (((AD p).take (i + 1)).flatMap Kx).length <= ((AD p).flatMap Kx).length := by
    have e := congrArg (fun l => (List.flatMap Kx l).length) (List.take_append_drop (i + 1) (AD p));simp only [List.flatMap_append, bm] at e;omega
   rw [FF hi, List.flatMap_append, bm, List.flatMap_cons, List.flatMap_nil, List.append_nil] at hle;rw [FF hi, List.flatMap_append, List.flatMap_cons, List.flatMap_nil, List.append_nil, List.foldl_append];have hl := JJ (((AD p).take i).flatMap Kx) [];unfold B2 AA;dsimp only;rw [bf (by omega), bb, Ao hi, ba, ZZ _ (by omega), ba, Zb _ _ (by simp only [bj] at hl; omega), ba, w64 (by omega) (by omega)]
   rfl)
  (fun s rec hs => ⟨((AD p).flatMap Kx).foldl E1 [], by
   subst hs;unfold B2;dsimp only
   rw [bg (by omega), bc, List.take_length], rfl⟩) (n := FUEL) (by unfold FUEL; omega)
 unfold Dy AA;dsimp only;rw [RQ p h, ba, ho, ba, hr, hres]

set_option linter.unusedSimpArgs false
set_option linter.unusedVariables false
set_option maxRecDepth 20000
theorem UL {l : List (List By8)} {f : List By8 -> Option Bool} (hl : l.length <= 1073741824) (h : ∀ x ∈ l, ∃ b, f x = some b) : (AI l f = some (-1) /\ l.any (gB f) = false) \/
  ∃ i, ∃ hi : i < l.length, AI l f = some (i : Int) /\ gB f l[i] = true /\ (l.take i).any (gB f) = false := by
 unfold AI;simp only [AA]
 obtain ⟨o, e, hR⟩ := Ax (b := AN l f) (fun i s => s = (i : Int) /\ (l.take i).any (gB f) = false) (fun o => match o with | .inl _ => l.any (gB f) = false | .inr z => ∃ i, ∃ hi : i < l.length, z = (i : Int) /\ gB f l[i] = true /\ (l.take i).any (gB f) = false) l.length (x0 := (0 : Int)) ⟨rfl, rfl⟩ (by
  rintro i _ rec hi ⟨rfl, ha⟩;obtain ⟨b, hb⟩ := h _ (bn hi);have hg : gB f l[i] = b := by simp [gB, hb]
  unfold AN;rw [bf (by omega), bb, Ao hi, ba, hb, ba]
  cases b with
  | true => exact .inr ⟨_, rfl, i, hi, rfl, hg, ha⟩
  | false =>
   refine .inl ⟨((i + 1 : Nat) : Int), ?_, rfl, ?_⟩
   ·rw [bc, w64 (by omega) (by omega)]; rfl
   ·rw [List.take_succ_eq_append_getElem hi, List.any_append, ha, List.any_cons, hg]; rfl) (by
  rintro _ rec ⟨rfl, ha⟩;refine ⟨.inl (), ?_, ?_⟩
  ·unfold AN;rw [bg (by omega), bc]
  ·rw [List.take_length] at ha; exact ha) (n := FUEL) (by unfold FUEL; omega)
 rw [e, ba]
 cases o with
 | inl u => exact .inl ⟨rfl, hR⟩
 | inr z => obtain ⟨i, hi, rfl, h1, h2⟩ := hR; exact .inr ⟨i, hi, rfl, h1, h2⟩
theorem Je {α : Type} {l : List α} {p : α -> Bool} (h : l.any p = false) : l.filter (fun x => !p x) = l :=
 List.filter_eq_self.2 fun x hx => by have := List.any_eq_false.1 h x hx; simpa using this
theorem S3 {l : List (List By8)} {f : List By8 -> Option Bool} (hl : l.length <= 1073741824) (h : ∀ x ∈ l, ∃ b, f x = some b) : AQ l f = some (l.filter fun x => !gB f x) := by
 unfold AQ;simp only [AA];rcases UL hl h with ⟨e, ha⟩ | ⟨i, hi, e, hg, ha⟩
 ·rw [e, ba, Je ha]; rfl
 rw [e, ba, show ((i : Int) == (-1 : Int)) = false by simp, bc, w64 (by omega) (by omega)];obtain ⟨o, e, hR⟩ := Ax (b := AK f)
  (fun m s => s.2.2 = ((i + 1 + m : Nat) : Int) /\ s.1.length = l.length /\ s.2.1 = (((l.take (i + 1 + m)).filter fun x => !gB f x).length : Int) /\ ((l.take (i + 1 + m)).filter fun x => !gB f x).length < i + 1 + m /\
   s.1.take ((l.take (i + 1 + m)).filter fun x => !gB f x).length = (l.take (i + 1 + m)).filter (fun x => !gB f x) /\ s.1.drop (i + 1 + m) = l.drop (i + 1 + m))
  (fun o => o.1.length = l.length /\ o.2 = ((l.filter fun x => !gB f x).length : Int) /\ (l.filter fun x => !gB f x).length < l.length /\ o.1.take (l.filter fun x => !gB f x).length = l.filter fun x => !gB f x) (l.length - (i + 1)) (x0 := (l, (i : Int), (i : Int) + 1)) (by
   have e1 : ((l.take (i + 1)).filter fun x => !gB f x) = l.take i := by
    rw [List.take_succ_eq_append_getElem hi, List.filter_append, Je ha];simp [hg]
   have e2 : (l.take i).length = i := by rw [List.length_take]; omega
   refine ⟨by simp, rfl, ?_, ?_, ?_, rfl⟩
   ·simp only [Nat.add_zero]; rw [e1, e2]
   ·simp only [Nat.add_zero]; rw [e1, e2]; omega
   ·simp only [Nat.add_zero]; rw [e1, e2]) (by
   rintro m ⟨a, p, j⟩ rec hm ⟨h1, h2, h3, h4, h5, h6⟩;simp only at h1 h2 h3 h5 h6;subst h1 h3;have hj : i + 1 + m < l.length := by omega
   have hja : i + 1 + m < a.length := by omega
   have hx : a[i + 1 + m] = l[i + 1 + m] := by
    have := congrArg (fun z => z[0]?) h6;simp only [List.getElem?_drop, Nat.add_zero, List.getElem?_eq_getElem hja, List.getElem?_eq_getElem hj] at this;exact Option.some.inj this
   obtain ⟨b, hb⟩ := h _ (bn hj);have hg' : gB f l[i + 1 + m] = b := by simp [gB, hb]
   have et : (l.take (i + 1 + (m + 1))).filter (fun x => !gB f x) = (l.take (i + 1 + m)).filter (fun x => !gB f x) ++ (if b then [] else [l[i + 1 + m]]) := by
    rw [show i + 1 + (m + 1) = (i + 1 + m) + 1 by omega, List.take_succ_eq_append_getElem hj, List.filter_append];congr 1;cases b <;> simp [hg']
   generalize hF : (l.take (i + 1 + m)).filter (fun x => !gB f x) = F at h4 h5 et ⊢;have hd : a.drop (i + 1 + (m + 1)) = l.drop (i + 1 + (m + 1)) := by
    have := congrArg (List.drop 1) h6;simpa [List.drop_drop, Nat.add_assoc] using this
   unfold AK;simp only [AA];left;rw [bf (by omega), bb, Ao hja, ba, hx, hb, ba]
   cases b with
   | true =>
    refine ⟨(a, (F.length : Int), ((i + 1 + (m + 1) : Nat) : Int)), ?_, rfl, h2, ?_, ?_, ?_, hd⟩
    ·rw [Bool.not_true, bc, w64 (by omega) (by omega)]; rfl
    ·rw [et]; simp
    ·rw [et]; simp; omega
    ·rw [et]; simpa using h5
   | false =>
    have hFa : F.length < a.length := by omega
    refine ⟨(a.set F.length l[i + 1 + m], ((F.length + 1 : Nat) : Int), ((i + 1 + (m + 1) : Nat) : Int)), ?_, rfl, by simp [h2], ?_, ?_, ?_, ?_⟩
    ·rw [Bool.not_false, bb, Ao hFa];simp only [ba, Int.toNat_natCast];rw [w64 (by omega) (by omega), w64 (by omega) (by omega)]; rfl
    ·rw [et]; simp
    ·rw [et]; simp; omega
    ·rw [et];simp only [Bool.false_eq_true, if_false, bm, bi, bj, Nat.zero_add];rw [List.take_succ_eq_append_getElem (by simp; omega), List.take_set_of_le (Nat.le_refl _), h5];simp
    ·rw [List.drop_set_of_lt (by omega)]; exact hd) (by
   rintro ⟨a, p, j⟩ rec ⟨h1, h2, h3, h4, h5, h6⟩;simp only at h1 h2 h3 h5 h6;subst h1 h3;have el : i + 1 + (l.length - (i + 1)) = l.length := by omega
   rw [el, List.take_length] at h4 h5;refine ⟨(a, ((l.filter fun x => !gB f x).length : Int)), ?_, h2, rfl, h4, h5⟩;unfold AK;simp only [AA]
   rw [el, bg (by omega), bc, List.take_length]) (n := FUEL) (by unfold FUEL; omega)
 rw [e, ba];obtain ⟨a, p⟩ := o;obtain ⟨r1, r2, r3, r4⟩ := hR;simp only at r1 r2 r4 ⊢;subst r2;rw [FG (by omega), ba];unfold ltL;rw [if_pos (by omega), ba, Int.toNat_natCast, r4]
def HQ : List By8 := [104, 116, 116, 112, 58, 47, 47, 119, 119, 119, 46, 119, 51, 46, 111, 114, 103, 47, 88, 77, 76, 47, 49, 57, 57, 56, 47, 110, 97, 109, 101, 115, 112, 97, 99, 101]
def PX (p : Aa) : List (List By8) := (Lib.compact (FN (CK p))).filter fun x => !(x == HQ)
theorem PX_ss (p : Aa) : SS (PX p) := (JY (CK p)).1.filter _
theorem PX_mem (p : Aa) (x : List By8) : x ∈ PX p ↔ x ∈ CK p /\ x ≠ HQ := by
 unfold PX;rw [List.mem_filter, (JY (CK p)).2];simp
theorem LG (l : List (List By8)) : (Lib.compact (FN l)).length <= l.length := by
 have := Io (FN l)
 rwa [Ik] at this
theorem PX_len (p : Aa) : (PX p).length <= szN p := by
 have h1 := LG (CK p);have h2 := Ge p;have h3 : (PX p).length <= (Lib.compact (FN (CK p))).length := List.length_filter_le _ _;omega
theorem Nj (p : Aa) (h : szN p <= 1049600) : B5 p = some (PX p) := by
 have h1 := LG (CK p);have h2 := Ge p;unfold B5;have hd := S3 (l := Lib.compact (FN (CK p))) (f := Dp) (by omega) (fun x _ => ⟨x == HQ, rfl⟩);rw [Qu p h, ba, hd, ba];rfl
theorem NP (p : Aa) (h : szN p <= 1049600) : C9 p = some (PX p) := by
 have h1 := LG (CK p);have h2 := Ge p;unfold C9 AA;dsimp only;rw [Rg p h, ba];unfold PX;generalize Lib.compact (FN (CK p)) = L at h1 ⊢;obtain ⟨o, ho, hr⟩ := Ax (b := BC L) (fun i s => s = ((L.take i).filter (fun x => !(x == HQ)), (i : Int))) (fun o => o = L.filter (fun x => !(x == HQ))) L.length (x0 := ([], (0 : Int))) (by simp)
  (fun i s rec hi hs => by
   subst hs;left;refine ⟨((L.take (i + 1)).filter (fun x => !(x == HQ)), ((i + 1 : Nat) : Int)), ?_, rfl⟩;have hl : ((L.take i).filter (fun x => !(x == HQ))).length <= i := Nat.le_trans (List.length_filter_le _ _) (by simp; omega);rw [FF hi, List.filter_append, List.filter_cons, List.filter_nil];unfold BC AA;dsimp only;rw [bf (by omega), bb, Ao hi, ba, w64 (by omega) (by omega)];by_cases hx : (!(L[i] == HQ)) = true
   ·rw [if_pos hx, EE (by simp only [bi, bj]; omega) (by simp only [bi, bj]; omega), ba];unfold HQ at hx ⊢;rw [hx, bb];rfl
   ·rw [if_neg hx, List.append_nil];have hx' : (!(L[i] == HQ)) = false := by simpa using hx
    unfold HQ at hx' ⊢;rw [hx', bc]
    rfl)
  (fun s rec hs => ⟨L.filter (fun x => !(x == HQ)), by
   subst hs;unfold BC;dsimp only
   rw [bg (by omega), bc, List.take_length], rfl⟩) (n := FUEL) (by unfold FUEL; omega)
 rw [ho, ba, hr]
end Go.Proofs.YtjofelloaofooaaGreatDoor
