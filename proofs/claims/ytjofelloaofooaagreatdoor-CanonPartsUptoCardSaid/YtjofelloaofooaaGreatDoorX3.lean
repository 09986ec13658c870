/- Canon: names, on both sides. No condition. -/
import Derived.Test.YtjofelloaofooaaGreatDoorX2
set_option linter.unusedSimpArgs false
set_option linter.unusedVariables false
set_option maxRecDepth 20000
namespace Go.Proofs.YtjofelloaofooaaGreatDoor
theorem Uq (a b : List By8) : CU a b = some (decide (D6 a b < 0)) := by
 unfold CU Bb AA;simp only [ba, beq_self_eq_true, Bool.not_true, bc, Bool.false_or];rw [Ie]
theorem Vf (a b : Nat) (ha : a <= 4194304) (hb : b <= 4194304) : IntKind.wrap .i64 (RI .u64 (IntKind.wrap .u64 (IntKind.wrap .i64 ((a : Int) + (b : Int)))) (1 : Int)) = (((a + b) / 2 : Nat) : Int) := by
 have h0 : IntKind.wrap .i64 ((a : Int) + (b : Int)) = (a : Int) + (b : Int) := w64 (by omega) (by omega);have h1 : IntKind.wrap .u64 ((a : Int) + (b : Int)) = ((a + b : Nat) : Int) := by
  simp [IntKind.wrap, IntKind.bits, IntKind.signed];omega
 have h2 : RI .u64 ((a + b : Nat) : Int) (1 : Int) = (((a + b) / 2 : Nat) : Int) := by
  unfold RI;rw [show (1 : Int).toNat = 1 from rfl, show min 1 (IntKind.bits .u64) = 1 from rfl, show ((2 : Int) ^ 1) = 2 from rfl, Int.fdiv_eq_ediv_of_nonneg _ (by omega)];omega
 rw [h0, h1, h2, w64 (by omega) (by omega)]
theorem Pn {ps : List (List By8)} (hs : SS ps) {u : List By8} {i : Nat} (hi : i < ps.length) : D6 ps[i] u < 0 ↔ i < Dk u ps := by
 constructor
 ·intro h;rcases Nat.lt_or_ge i (Dk u ps) with h' | h'
  ·exact h'
  ·have hp : Dk u ps < ps.length := by omega
   have h2 := Kk u ps hp;exfalso;apply h2;by_cases e : Dk u ps = i
   ·simpa only [e] using h
   ·have h3 := List.pairwise_iff_getElem.1 hs (Dk u ps) i hp hi (by omega);exact Vd h3 (by omega)
 ·exact IF u ps i hi
theorem NM (ps : List (List By8)) (hs : SS ps) (u : List By8) (hl : ps.length <= 2097152) : iter (Au ps u) FUEL ((0 : Int), (ps.length : Int)) = some (Dk u ps : Int) := by
 have hpl := GX u ps;obtain ⟨o, ho, hr⟩ := Ax (b := Au ps u)
  (fun i s => ∃ a b : Nat, s = ((a : Int), (b : Int)) /\ a <= Dk u ps /\ Dk u ps <= b /\ b <= ps.length /\ (b - a) + i <= ps.length) (fun o => o = (Dk u ps : Int)) ps.length (x0 := ((0 : Int), (ps.length : Int))) ⟨0, ps.length, rfl, by omega, hpl, by omega, by omega⟩
  (fun i s rec hi ⟨a, b, hs0, h1, h2, h3, h4⟩ => by
   subst hs0;unfold Au;dsimp only;by_cases hab : a < b
   ·left;have hm : (a + b) / 2 < ps.length := by omega
    rw [bf (by omega), bb, Vf a b (by omega) (by omega), Ao hm, ba, Uq, ba];by_cases hc : D6 ps[(a + b) / 2] u < 0
    ·have hlt := (Pn hs hm).1 hc;refine ⟨((((a + b) / 2 + 1 : Nat) : Int), (b : Int)), ?_, (a + b) / 2 + 1, b, rfl, by omega, h2, h3, by omega⟩;rw [bf hc, bb, w64 (by omega) (by omega)];rfl
    ·have hge : ¬ (a + b) / 2 < Dk u ps := fun h => hc ((Pn hs hm).2 h);refine ⟨((a : Int), (((a + b) / 2 : Nat) : Int)), ?_, a, (a + b) / 2, rfl, h1, by omega, by omega, by omega⟩;rw [bg hc, bc]
   ·right;refine ⟨(a : Int), ?_, by omega⟩
    rw [bg (by omega), bc])
  (fun s rec ⟨a, b, hs0, h1, h2, h3, h4⟩ => ⟨(a : Int), by
   subst hs0;unfold Au;dsimp only
   rw [bg (by omega), bc], by omega⟩) (n := FUEL) (by unfold FUEL; omega)
 rw [ho, hr]
theorem Sf {ps : List (List By8)} (hs : SS ps) {u : List By8} (hu : u ∈ ps) : ∃ h : Dk u ps < ps.length, ps[Dk u ps] = u := by
 obtain ⟨i, hi, e⟩ := List.mem_iff_getElem.1 hu;have h0 : ¬ i < Dk u ps := fun h => by
  have := IF u ps i hi h;rw [e, CR.refl] at this;omega
 have hp : Dk u ps < ps.length := by omega
 refine ⟨hp, ?_⟩;by_cases e2 : Dk u ps = i
 ·simpa only [e2] using e
 ·have h3 := List.pairwise_iff_getElem.1 hs (Dk u ps) i hp hi (by omega);rw [e] at h3;exact absurd h3 (Kk u ps hp)
theorem Sv (ps : List (List By8)) (hs : SS ps) (u : List By8) (hu : u ∈ ps) (hl : ps.length <= 2097152) : AM ps u = some ((Dk u ps : Int), true) := by
 obtain ⟨hp, e⟩ := Sf hs hu;unfold AM AA;dsimp only;rw [NM ps hs u hl, ba, bf (by omega), bb, Ao hp, ba, e, beq_self_eq_true, bb]
def Q9 (i : Nat) : List By8 := [110] ++ Lib.decDigits (i + 1)
def nmX (ps : List (List By8)) (n : Ac) : List By8 :=
 if n.URI = [] then n.Local else if n.URI = HQ then [120, 109, 108, 58] ++ n.Local else Q9 (Dk n.URI ps) ++ [58] ++ n.Local
theorem JO (i : Nat) (h : i <= 2097151) : (Q9 i).length <= 22 := by
 have := QB (i + 1) (by omega);unfold Q9;simp only [bm, bi, bj];omega
theorem M1 (i : Nat) (h : i <= 2097151) : Dh (i : Int) = some (Q9 i) := by
 have hd := QB (i + 1) (by omega);have e : L_Itoa (IntKind.wrap .i64 ((i : Int) + 1)) = some (Lib.decDigits (i + 1)) := by
  rw [w64 (by omega) (by omega)];unfold L_Itoa;rw [if_pos (by omega)];have := Lib.itoa_nonneg (i + 1);rw [show ((i : Int) + 1) = ((i + 1 : Nat) : Int) by omega, this]
 unfold Dh;rw [e, ba, DP (by simp only [bi, bj]; omega), ba];rfl
def Up (ps : List (List By8)) (n : Ac) : Prop := (n.URI = [] \/ n.URI = HQ \/ n.URI ∈ ps) /\ n.Local.length <= 1049600 /\ n.URI.length <= 1049600
theorem Sg (b : List By8) (ps : List (List By8)) (hs : SS ps) (hl : ps.length <= 2097151) (n : Ac) (hn : Up ps n) : BG ⟨⟨(), b⟩, ps⟩ n = some (nmX ps n) := by
 obtain ⟨h1, h2, _⟩ := hn;unfold BG nmX;by_cases e1 : n.URI = []
 ·rw [if_pos e1, show (n.URI == ([] : List By8)) = true by simp [e1], bb]
 ·rw [if_neg e1, show (n.URI == ([] : List By8)) = false by simp [e1], bc];by_cases e2 : n.URI = HQ
  ·rw [if_pos e2];have e3 : (n.URI == HQ) = true := by simp [e2]
   unfold HQ at e3;rw [e3, bb, DP (by simp only [bi, bj]; omega), ba]
  ·rw [if_neg e2];have e3 : (n.URI == HQ) = false := by simp [e2]
   unfold HQ at e3;have hu : n.URI ∈ ps := by rcases h1 with h | h | h <;> first | exact absurd h e1 | exact absurd h e2 | exact h
   have hp := GX n.URI ps;have hx := JO (Dk n.URI ps) (by omega);rw [e3, bc, Sv ps hs _ hu (by omega), ba];dsimp only;rw [M1 _ (by omega), ba, DP (by simp only [bi, bj]; omega), ba, DP (by simp only [bm, bi, bj]; omega), ba]
theorem YG (ps : List (List By8)) (hs : SS ps) (h0 : [] ∉ ps) (hl : ps.length <= 2097151) (n : Ac) (hn : Up ps n) : Cp ps n = some (nmX ps n) := by
 obtain ⟨h1, h2, _⟩ := hn;unfold Cp nmX AA;by_cases e2 : n.URI = HQ
 ·have e3 : (n.URI == HQ) = true := by simp [e2]
  have e1 : n.URI ≠ [] := by rw [e2]; decide
  unfold HQ at e3;rw [if_neg e1, if_pos e2, e3, bb, DP (by simp only [bi, bj]; omega), ba]
 ·have e3 : (n.URI == HQ) = false := by simp [e2]
  unfold HQ at e3;rw [e3, bc];dsimp only;by_cases e1 : n.URI = []
  ·rw [if_pos e1];obtain ⟨o, ho, hr⟩ := Ax (b := AS ps n) (fun i s => s = (i : Int)) (fun o => o = .inl ()) ps.length (x0 := (0 : Int)) rfl
    (fun i s rec hi hs => by
     subst hs;left;refine ⟨((i + 1 : Nat) : Int), ?_, rfl⟩;have hne : ps[i] ≠ [] := fun e => h0 (e ▸ bn hi);unfold AS;rw [bf (by omega), bb, Ao hi, ba, e1, show (ps[i] == ([] : List By8)) = false by simp [hne], bc, w64 (by omega) (by omega)]
     rfl)
    (fun s rec hs => ⟨.inl (), by
     subst hs;unfold AS
     rw [bg (by omega), bc], rfl⟩) (n := FUEL) (by unfold FUEL; omega)
   rw [ho, ba, hr]
  ·rw [if_neg e1, if_neg e2];have hu : n.URI ∈ ps := by rcases h1 with h | h | h <;> first | exact absurd h e1 | exact absurd h e2 | exact h
   obtain ⟨hp, hat⟩ := Sf hs hu;have hd := QB (Dk n.URI ps + 1) (by omega);obtain ⟨o, ho, hr⟩ := Ax (b := AS ps n) (fun i s => s = (i : Int) /\ i <= Dk n.URI ps) (fun o => o = .inr (Q9 (Dk n.URI ps) ++ [58] ++ n.Local)) (Dk n.URI ps) (x0 := (0 : Int)) ⟨rfl, by omega⟩
    (fun i s rec hi ⟨hs0, _⟩ => by
     subst hs0;left;refine ⟨((i + 1 : Nat) : Int), ?_, rfl, by omega⟩;have hlt : i < ps.length := by omega
     have hne : ps[i] ≠ n.URI := TQ (IF n.URI ps i hlt hi);unfold AS;rw [bf (by omega), bb, Ao hlt, ba, show (ps[i] == n.URI) = false by simp [hne], bc, w64 (by omega) (by omega)]
     rfl)
    (fun s rec ⟨hs0, _⟩ => ⟨.inr (Q9 (Dk n.URI ps) ++ [58] ++ n.Local), by
     subst hs0;unfold AS;rw [bf (by omega), bb, Ao hp, ba, hat, beq_self_eq_true, bb, w64 (by omega) (by omega)];have e := Vv (Dk n.URI ps + 1) (by omega) (by omega);rw [show ((Dk n.URI ps : Int) + 1) = ((Dk n.URI ps + 1 : Nat) : Int) by omega, e, ba, DP (by simp only [bi, bj]; omega), ba, DP (by simp only [bm, bi, bj]; omega), ba, DP (by simp only [bm, bi, bj]; omega), ba]
     rfl, rfl⟩) (n := FUEL) (by unfold FUEL; omega)
   rw [ho, ba, hr]

set_option linter.unusedSimpArgs false
set_option linter.unusedVariables false
set_option maxRecDepth 20000
def L5 (ps : List (List By8)) (i : Nat) : List By8 := [32, 120, 109, 108, 110, 115, 58] ++ Q9 i ++ [61, 34] ++ (ps.getD i []).flatMap escQ ++ [34]
def nsX (ps : List (List By8)) (k : Nat) : List By8 := (List.range k).flatMap (L5 ps)
def TJ (ps : List (List By8)) (a : Ae) : List By8 := [32] ++ nmX ps a.Name ++ [61, 34] ++ a.Value.flatMap escQ ++ [34]
def Ef (ps : List (List By8)) (l : List Ae) : List By8 := l.flatMap (TJ ps)
mutual
def shN (ps : List (List By8)) : Aa -> Bool -> List By8
 | ⟨K, N, A, Ks, T⟩, top =>
  if K = 3 then T.flatMap escT
  else if K = 4 then [60, 33, 45, 45] ++ T ++ [45, 45, 62]
  else if K = 5 then [60, 63] ++ N.Local ++ (if T = [] then [] else [32] ++ T) ++ [63, 62]
  else [60] ++ nmX ps N ++ (if top then nsX ps ps.length else []) ++ Ef ps A ++ [62] ++ shL ps Ks ++ ([60, 47] ++ nmX ps N ++ [62])
def shL (ps : List (List By8)) : List Aa -> List By8
 | [] => []
 | k :: l => shN ps k false ++ shL ps l
end
theorem Lb (ps : List (List By8)) (x : Aa) (top : Bool) : shN ps x top =
  if x.Kind = 3 then x.Text.flatMap escT
  else if x.Kind = 4 then [60, 33, 45, 45] ++ x.Text ++ [45, 45, 62]
  else if x.Kind = 5 then [60, 63] ++ x.Name.Local ++ (if x.Text = [] then [] else [32] ++ x.Text) ++ [63, 62]
  else [60] ++ nmX ps x.Name ++ (if top then nsX ps ps.length else []) ++ Ef ps x.Attrs ++ [62] ++ shL ps x.Kids ++ ([60, 47] ++ nmX ps x.Name ++ [62]) := by cases x; simp only [shN]
theorem Mn (ps : List (List By8)) : ∀ l m : List Aa, shL ps (l ++ m) = shL ps l ++ shL ps m
 | [], m => by simp [shL]
 | k :: l, m => by simp [shL, Mn ps l m]
theorem H9 (ps : List (List By8)) {l : List Aa} {i : Nat} (h : i < l.length) : shL ps (l.take (i + 1)) = shL ps (l.take i) ++ shN ps l[i] false := by
 rw [FF h, Mn]; simp [shL]
theorem Rt (ps : List (List By8)) (l : List Aa) (i : Nat) : (shL ps (l.take i)).length <= (shL ps l).length := by
 have e := congrArg (fun l => (shL ps l).length) (List.take_append_drop i l);simp only [Mn, bm] at e;omega
theorem Gy (ps : List (List By8)) (k : Nat) : nsX ps (k + 1) = nsX ps k ++ L5 ps k := by unfold nsX; rw [List.range_succ, List.flatMap_append]; simp
theorem Pj (ps : List (List By8)) : ∀ (n k : Nat), (nsX ps k).length <= (nsX ps (k + n)).length
 | 0, k => Nat.le_refl _
 | n + 1, k => by have := Pj ps n k; rw [<- Nat.add_assoc, Gy, bm]; omega
theorem Gr (ps : List (List By8)) {l : List Ae} {i : Nat} (h : i < l.length) : Ef ps (l.take (i + 1)) = Ef ps (l.take i) ++ TJ ps l[i] := by unfold Ef; rw [FF h, List.flatMap_append]; simp
theorem MX (ps : List (List By8)) (l : List Ae) (i : Nat) : (Ef ps (l.take i)).length <= (Ef ps l).length := by
 have e := congrArg (fun l => (Ef ps l).length) (List.take_append_drop i l);unfold Ef at e ⊢;simp only [List.flatMap_append, bm] at e;omega
structure okP (ps : List (List By8)) : Prop where
 ss : SS ps
 ne : [] ∉ ps
 len : ps.length <= 1049600
 each : ∀ x ∈ ps, x.length <= 1049600
def okD (ps : List (List By8)) (x : Aa) : Prop := Up ps x.Name /\ (∀ a ∈ x.Attrs, Up ps a.Name /\ a.Value.length <= 1049600) /\ x.Attrs.length <= 1049600 /\ x.Kids.length <= 1049600 /\ x.Text.length <= 1049600 /\ (x.Kind = 2 \/ x.Kind = 3 \/ x.Kind = 4 \/ x.Kind = 5)
theorem OS (b : List By8) (ps L : List (List By8)) (hL : L.length <= 1000) (h : b.length + L.flatten.length <= 140737488355328) : Ar ⟨⟨(), b⟩, ps⟩ L = some (b ++ L.flatten) := TK ⟨⟨(), b⟩, ps⟩ L hL h
theorem Zn {ps : List (List By8)} (hp : okP ps) (b0 b : List By8) (top : Bool) (h : b.length + (if top then nsX ps ps.length else []).length <= 140737488355328) :
  iter (A0 ⟨⟨(), b0⟩, ps⟩ top) FUEL (b, (0 : Int)) = some (b ++ if top then nsX ps ps.length else []) := by
 have hpl := hp.len;obtain ⟨o, ho, hr⟩ := Ax (b := A0 ⟨⟨(), b0⟩, ps⟩ top) (fun i s => s = (b ++ (if top then nsX ps i else []), (i : Int))) (fun o => o = b ++ if top then nsX ps ps.length else []) ps.length (x0 := (b, (0 : Int))) (by cases top <;> simp [nsX])
  (fun i s rec hi hs => by
   subst hs;left;refine ⟨(b ++ (if top then nsX ps (i + 1) else []), ((i + 1 : Nat) : Int)), ?_, rfl⟩;unfold A0 AA;dsimp only;rw [bf (by omega), bb, Ao hi, ba, w64 (by omega) (by omega)]
   cases top with
   | true =>
    have he := hp.each _ (bn hi);have hle := Pj ps (ps.length - (i + 1)) (i + 1);rw [show i + 1 + (ps.length - (i + 1)) = ps.length by omega, Gy, bm] at hle;have hone : L5 ps i = ([([32, 120, 109, 108, 110, 115, 58] : List By8), Q9 i, ([61, 34] : List By8), ps[i].flatMap escQ, ([34] : List By8)] : List (List By8)).flatten := by
     unfold L5;rw [List.getD_eq_getElem?_getD, List.getElem?_eq_getElem hi];simp
    simp only [if_true] at h ⊢;rw [bb, M1 i (by omega), ba, PS _ he, ba, OS _ _ _ (by simp) (by rw [<- hone, bm]; omega), ba, <- hone, Gy, List.append_assoc];rfl
   | false =>
    simp only [Bool.false_eq_true, if_false];rw [bc]
    rfl)
  (fun s rec hs => ⟨b ++ if top then nsX ps ps.length else [], by
   subst hs;unfold A0;dsimp only
   rw [bg (by omega), bc], rfl⟩) (n := FUEL) (by unfold FUEL; omega)
 rw [ho, hr]
theorem ZU {ps : List (List By8)} (hp : okP ps) (b0 b : List By8) (x : Aa) (hx : okD ps x) (h : b.length + (Ef ps x.Attrs).length <= 140737488355328) :
  iter (A2 ⟨⟨(), b0⟩, ps⟩ x) FUEL (b, (0 : Int)) = some (b ++ Ef ps x.Attrs) := by
 obtain ⟨_, ha, hal, _⟩ := hx;have hpl := hp.len;obtain ⟨o, ho, hr⟩ := Ax (b := A2 ⟨⟨(), b0⟩, ps⟩ x) (fun i s => s = (b ++ Ef ps (x.Attrs.take i), (i : Int))) (fun o => o = b ++ Ef ps x.Attrs) x.Attrs.length (x0 := (b, (0 : Int))) (by simp [Ef])
  (fun i s rec hi hs => by
   subst hs;left;refine ⟨(b ++ Ef ps (x.Attrs.take (i + 1)), ((i + 1 : Nat) : Int)), ?_, rfl⟩;obtain ⟨h1, h2⟩ := ha _ (bn hi);have hle := MX ps x.Attrs (i + 1);rw [Gr ps hi, bm] at hle;have hone : TJ ps x.Attrs[i] = ([([32] : List By8), nmX ps x.Attrs[i].Name, ([61, 34] : List By8), x.Attrs[i].Value.flatMap escQ, ([34] : List By8)] : List (List By8)).flatten := by
    unfold TJ;simp
   unfold A2;dsimp only;rw [bf (by omega), bb, Ao hi, ba, Sg _ ps hp.ss (by omega) _ h1, ba, PS _ h2, ba, OS _ _ _ (by simp) (by rw [<- hone, bm]; omega), ba, <- hone, Gr ps hi, List.append_assoc, w64 (by omega) (by omega)]
   rfl)
  (fun s rec hs => ⟨b ++ Ef ps x.Attrs, by
   subst hs;unfold A2;dsimp only
   rw [bg (by omega), bc, List.take_length], rfl⟩) (n := FUEL) (by unfold FUEL; omega)
 rw [ho, hr]
theorem Zp {ps : List (List By8)} (b0 b : List By8) (x : Aa) (hx : x.Kids.length <= 1049600) (rc : Ah × Aa × Bool -> Option (List By8))
  (h : b.length + (shL ps x.Kids).length <= 140737488355328) (hrc : ∀ k ∈ x.Kids, ∀ b : List By8, b.length + (shN ps k false).length <= 140737488355328 -> rc (⟨⟨(), b⟩, ps⟩, k, false) = some (b ++ shN ps k false)) :
  iter (A1 ⟨⟨(), b0⟩, ps⟩ x rc) FUEL (b, (0 : Int)) = some (b ++ shL ps x.Kids) := by
 obtain ⟨o, ho, hr⟩ := Ax (b := A1 ⟨⟨(), b0⟩, ps⟩ x rc) (fun i s => s = (b ++ shL ps (x.Kids.take i), (i : Int))) (fun o => o = b ++ shL ps x.Kids) x.Kids.length (x0 := (b, (0 : Int))) (by simp [shL])
  (fun i s rec hi hs => by
   subst hs;left;refine ⟨(b ++ shL ps (x.Kids.take (i + 1)), ((i + 1 : Nat) : Int)), ?_, rfl⟩;have hle := Rt ps x.Kids (i + 1);rw [H9 ps hi, bm] at hle;unfold A1;dsimp only;rw [bf (by omega), bb, Ao hi, ba, hrc _ (bn hi) _ (by rw [bm]; omega), ba, H9 ps hi, List.append_assoc, w64 (by omega) (by omega)]
   rfl)
  (fun s rec hs => ⟨b ++ shL ps x.Kids, by
   subst hs;unfold A1;dsimp only
   rw [bg (by omega), bc, List.take_length], rfl⟩) (n := FUEL) (by unfold FUEL; omega)
 rw [ho, hr]
theorem Rz {ps : List (List By8)} (hp : okP ps) : ∀ (n : Nat) (x : Aa) (b : List By8) (top : Bool), szN x < n -> (∀ y ∈ AD x, okD ps y) -> b.length + (shN ps x top).length <= 140737488355328 ->
  iter Aw n (⟨⟨(), b⟩, ps⟩, x, top) = some (b ++ shN ps x top)
 | 0, x, b, top, h, _, _ => by omega
 | n + 1, x, b, top, h, hx, hb => by
  have hpl := hp.len;have hk := DO x;obtain ⟨o1, o2, o3, o4, o5, o6⟩ := hx x (by rw [B1]; exact List.mem_cons_self)
  have hkid : ∀ k ∈ x.Kids, ∀ y ∈ AD k, okD ps y := fun k hk y hy => hx y (by
   rw [B1];refine List.mem_cons_of_mem _ ?_;obtain ⟨l1, l2, e⟩ := List.append_of_mem hk;rw [e, CX];simp only [B4]
   simp [hy])
  have ih : ∀ k ∈ x.Kids, ∀ b : List By8, b.length + (shN ps k false).length <= 140737488355328 -> iter Aw n (⟨⟨(), b⟩, ps⟩, k, false) = some (b ++ shN ps k false) := fun k hk b hb => Rz hp n k b false (by have := Gt hk; omega) (hkid k hk) hb;rw [Dc];generalize iter Aw n = rc at ih ⊢;rw [Lb] at hb ⊢;unfold Aw AA;dsimp only;by_cases e3 : x.Kind = 3
  ·rw [if_pos e3] at hb ⊢;rw [show (x.Kind == (3 : Int)) = true by simp [e3], bb, U8 _ o5, ba, OS _ _ _ (by simp) (by simp only [List.flatten_cons, List.flatten_nil, List.append_nil]; omega), ba];simp
  rw [if_neg e3] at hb ⊢;rw [show (x.Kind == (3 : Int)) = false by simp [e3], bc];by_cases e4 : x.Kind = 4
  ·rw [if_pos e4] at hb ⊢;rw [show (x.Kind == (4 : Int)) = true by simp [e4], bb, OS _ _ _ (by simp) (by simp only [List.flatten_cons, List.flatten_nil, List.append_nil, bm, bi, bj] at hb ⊢; omega), ba];simp
  rw [if_neg e4] at hb ⊢;rw [show (x.Kind == (4 : Int)) = false by simp [e4], bc];by_cases e5 : x.Kind = 5
  ·rw [if_pos e5] at hb ⊢;rw [show (x.Kind == (5 : Int)) = true by simp [e5], bb, OS _ _ _ (by simp) (by simp only [List.flatten_cons, List.flatten_nil, List.append_nil, bm, bi, bj] at hb ⊢; omega), ba];by_cases et : x.Text = []
   ·rw [if_pos et] at hb ⊢;rw [et, show (!(([] : List By8) == ([] : List By8))) = false by decide, bc, OS _ _ _ (by simp) (by simp only [List.flatten_cons, List.flatten_nil, List.append_nil, bm, bi, bj] at hb ⊢; omega), ba];simp
   ·rw [if_neg et] at hb ⊢;rw [show (!(x.Text == ([] : List By8))) = true by simp [et], bb, OS _ _ _ (by simp) (by simp only [List.flatten_cons, List.flatten_nil, List.append_nil, bm, bi, bj] at hb ⊢; omega), ba, OS _ _ _ (by simp) (by simp only [List.flatten_cons, List.flatten_nil, List.append_nil, bm, bi, bj] at hb ⊢; omega), ba];simp
  rw [if_neg e5] at hb ⊢;have e2 : x.Kind = 2 := by rcases o6 with h | h | h | h <;> first | exact h | exact absurd h e3 | exact absurd h e4 | exact absurd h e5
  rw [show (x.Kind == (5 : Int)) = false by simp [e5], bc, show (x.Kind == (2 : Int)) = true by simp [e2], bb];unfold Bd AA;dsimp only;simp only [bm, bi, bj] at hb;rw [Sg _ ps hp.ss (by omega) _ o1, ba, OS _ _ _ (by simp) (by simp only [List.flatten_cons, List.flatten_nil, List.append_nil, bm, bi, bj]; omega), ba];rw [Zn hp _ _ top (by simp only [List.flatten_cons, List.flatten_nil, List.append_nil, bm, bi, bj]; omega), ba];rw [ZU hp _ _ x (hx x (by rw [B1]; exact List.mem_cons_self)) (by simp only [List.flatten_cons, List.flatten_nil, List.append_nil, bm, bi, bj]; omega), ba];rw [OS _ _ _ (by simp) (by simp only [List.flatten_cons, List.flatten_nil, List.append_nil, bm, bi, bj]; omega), ba];rw [Zp _ _ x o4 rc (by simp only [List.flatten_cons, List.flatten_nil, List.append_nil, bm, bi, bj]; omega) ih, ba];rw [OS _ _ _ (by simp) (by simp only [List.flatten_cons, List.flatten_nil, List.append_nil, bm, bi, bj]; omega), ba];simp

set_option linter.unusedSimpArgs false
set_option linter.unusedVariables false
set_option maxRecDepth 20000
theorem HP {a b : List By8} (h : a.length + b.length <= 140737488355328) : cat a b = some (a ++ b) := DP (by omega)
theorem Zj {ps : List (List By8)} (hp : okP ps) (b : List By8) (h : b.length + (nsX ps ps.length).length <= 140737488355328) :
  iter (Be ps) FUEL (b, (0 : Int)) = some (b ++ nsX ps ps.length) := by
 have hpl := hp.len;obtain ⟨o, ho, hr⟩ := Ax (b := Be ps) (fun i s => s = (b ++ nsX ps i, (i : Int))) (fun o => o = b ++ nsX ps ps.length) ps.length (x0 := (b, (0 : Int))) (by simp [nsX])
  (fun i s rec hi hs => by
   subst hs;left;refine ⟨(b ++ nsX ps (i + 1), ((i + 1 : Nat) : Int)), ?_, rfl⟩;have he := hp.each _ (bn hi);have hle := Pj ps (ps.length - (i + 1)) (i + 1);rw [show i + 1 + (ps.length - (i + 1)) = ps.length by omega, Gy, bm] at hle;have hd := Vv (i + 1) (by omega) (by omega);have hone : L5 ps i = [32, 120, 109, 108, 110, 115, 58, 110] ++ Lib.decDigits (i + 1) ++ [61, 34] ++ ps[i].flatMap escQ ++ [34] := by
    unfold L5 Q9;rw [List.getD_eq_getElem?_getD, List.getElem?_eq_getElem hi];simp
   rw [Gy, hone];rw [hone] at hle;simp only [bm, bi, bj] at hle;unfold Be;dsimp only;rw [bf (by omega), bb, Ao hi, ba, w64 (by omega) (by omega), show ((i : Int) + 1) = ((i + 1 : Nat) : Int) by omega, hd];rw [HP (by simp only [bm, bi, bj]; omega), ba, ba];rw [HP (by simp only [bm, bi, bj]; omega), ba];rw [HP (by simp only [bm, bi, bj]; omega), ba, OD _ he, ba];rw [HP (by simp only [bm, bi, bj]; omega), ba];rw [HP (by simp only [bm, bi, bj]; omega), ba]
   simp only [List.append_assoc])
  (fun s rec hs => ⟨b ++ nsX ps ps.length, by
   subst hs;unfold Be;dsimp only
   rw [bg (by omega), bc], rfl⟩) (n := FUEL) (by unfold FUEL; omega)
 rw [ho, hr]
theorem Zk {ps : List (List By8)} (hp : okP ps) (b : List By8) (x : Aa) (hx : okD ps x) (h : b.length + (Ef ps x.Attrs).length <= 140737488355328) :
  iter (BF ps x) FUEL (b, (0 : Int)) = some (b ++ Ef ps x.Attrs) := by
 obtain ⟨_, ha, hal, _⟩ := hx;have hpl := hp.len;obtain ⟨o, ho, hr⟩ := Ax (b := BF ps x) (fun i s => s = (b ++ Ef ps (x.Attrs.take i), (i : Int))) (fun o => o = b ++ Ef ps x.Attrs) x.Attrs.length (x0 := (b, (0 : Int))) (by simp [Ef])
  (fun i s rec hi hs => by
   subst hs;left;refine ⟨(b ++ Ef ps (x.Attrs.take (i + 1)), ((i + 1 : Nat) : Int)), ?_, rfl⟩;obtain ⟨h1, h2⟩ := ha _ (bn hi);have hle := MX ps x.Attrs (i + 1);rw [Gr ps hi, bm] at hle;rw [Gr ps hi];unfold TJ at hle ⊢;simp only [bm, bi, bj] at hle;unfold BF;dsimp only;rw [bf (by omega), bb, Ao hi, ba];rw [HP (by simp only [bm, bi, bj]; omega), ba, YG ps hp.ss hp.ne (by omega) _ h1, ba];rw [HP (by simp only [bm, bi, bj]; omega), ba];rw [HP (by simp only [bm, bi, bj]; omega), ba, OD _ h2, ba];rw [HP (by simp only [bm, bi, bj]; omega), ba];rw [HP (by simp only [bm, bi, bj]; omega), ba, w64 (by omega) (by omega)];simp only [List.append_assoc]
   rfl)
  (fun s rec hs => ⟨b ++ Ef ps x.Attrs, by
   subst hs;unfold BF;dsimp only
   rw [bg (by omega), bc, List.take_length], rfl⟩) (n := FUEL) (by unfold FUEL; omega)
 rw [ho, hr]
theorem ZS {ps : List (List By8)} (b : List By8) (x : Aa) (hx : x.Kids.length <= 1049600) (rc : List (List By8) × Aa × Bool -> Option (List By8))
  (h : b.length + (shL ps x.Kids).length <= 140737488355328) (hrc : ∀ k ∈ x.Kids, (shN ps k false).length <= 140737488355328 -> rc (ps, k, false) = some (shN ps k false)) :
  iter (BE ps x rc) FUEL (b, (0 : Int)) = some (b ++ shL ps x.Kids) := by
 obtain ⟨o, ho, hr⟩ := Ax (b := BE ps x rc) (fun i s => s = (b ++ shL ps (x.Kids.take i), (i : Int))) (fun o => o = b ++ shL ps x.Kids) x.Kids.length (x0 := (b, (0 : Int))) (by simp [shL])
  (fun i s rec hi hs => by
   subst hs;left;refine ⟨(b ++ shL ps (x.Kids.take (i + 1)), ((i + 1 : Nat) : Int)), ?_, rfl⟩;have hle := Rt ps x.Kids (i + 1);rw [H9 ps hi, bm] at hle;unfold BE;dsimp only;rw [bf (by omega), bb, Ao hi, ba, hrc _ (bn hi) (by omega), ba, HP (by rw [bm]; omega), ba, H9 ps hi, List.append_assoc, w64 (by omega) (by omega)]
   rfl)
  (fun s rec hs => ⟨b ++ shL ps x.Kids, by
   subst hs;unfold BE;dsimp only
   rw [bg (by omega), bc, List.take_length], rfl⟩) (n := FUEL) (by unfold FUEL; omega)
 rw [ho, hr]
theorem Sb {ps : List (List By8)} (hp : okP ps) : ∀ (n : Nat) (x : Aa) (top : Bool), szN x < n -> (∀ y ∈ AD x, okD ps y) -> (shN ps x top).length <= 140737488355328 ->
  iter BS n (ps, x, top) = some (shN ps x top)
 | 0, x, top, h, _, _ => by omega
 | n + 1, x, top, h, hx, hb => by
  have hpl := hp.len;have hk := DO x;have hxx := hx x (by rw [B1]; exact List.mem_cons_self);obtain ⟨o1, o2, o3, o4, o5, o6⟩ := hxx
  have hkid : ∀ k ∈ x.Kids, ∀ y ∈ AD k, okD ps y := fun k hk y hy => hx y (by
   rw [B1];refine List.mem_cons_of_mem _ ?_;obtain ⟨l1, l2, e⟩ := List.append_of_mem hk;rw [e, CX];simp only [B4]
   simp [hy])
  have ih : ∀ k ∈ x.Kids, (shN ps k false).length <= 140737488355328 -> iter BS n (ps, k, false) = some (shN ps k false) := fun k hk hb => Sb hp n k false (by have := Gt hk; omega) (hkid k hk) hb;rw [Dc];generalize iter BS n = rc at ih ⊢;rw [Lb] at hb ⊢;unfold BS AA;dsimp only;by_cases e3 : x.Kind = 3
  ·rw [if_pos e3] at hb ⊢;rw [show (x.Kind == (3 : Int)) = true by simp [e3], bb, Uo _ o5, ba]
  rw [if_neg e3] at hb ⊢;rw [show (x.Kind == (3 : Int)) = false by simp [e3], bc];by_cases e4 : x.Kind = 4
  ·rw [if_pos e4] at hb ⊢;simp only [bm, bi, bj] at hb;rw [show (x.Kind == (4 : Int)) = true by simp [e4], bb, HP (by simp only [bm, bi, bj]; omega), ba, HP (by simp only [bm, bi, bj]; omega), ba]
  rw [if_neg e4] at hb ⊢;rw [show (x.Kind == (4 : Int)) = false by simp [e4], bc];by_cases e5 : x.Kind = 5
  ·rw [if_pos e5] at hb ⊢;rw [show (x.Kind == (5 : Int)) = true by simp [e5], bb];by_cases et : x.Text = []
   ·rw [if_pos et] at hb ⊢;simp only [bm, bi, bj] at hb;rw [show (x.Text == ([] : List By8)) = true by simp [et], bb, HP (by simp only [bm, bi, bj]; omega), ba, HP (by simp only [bm, bi, bj]; omega), ba];simp
   ·rw [if_neg et] at hb ⊢;simp only [bm, bi, bj] at hb;rw [show (x.Text == ([] : List By8)) = false by simp [et], bc, HP (by simp only [bm, bi, bj]; omega), ba, HP (by simp only [bm, bi, bj]; omega), ba, HP (by simp only [bm, bi, bj]; omega), ba, HP (by simp only [bm, bi, bj]; omega), ba];simp
  rw [if_neg e5] at hb ⊢;rw [show (x.Kind == (5 : Int)) = false by simp [e5], bc];simp only [bm, bi, bj] at hb;have hpull : ∀ q : List By8 -> Option (List By8), (cond top ((iter (Be ps) FUEL (([60] : List By8) ++ nmX ps x.Name, (0 : Int))).bind fun o => q o) (q (([60] : List By8) ++ nmX ps x.Name))) = q (([60] : List By8) ++ nmX ps x.Name ++ if top then nsX ps ps.length else []) := fun q => by
   cases top with
   | true =>
    simp only [if_true] at hb ⊢;rw [bb, Zj hp _ (by simp only [bm, bi, bj]; omega), ba]
   | false => simp
  rw [YG ps hp.ss hp.ne (by omega) _ o1, ba, HP (by simp only [bm, bi, bj]; omega), ba];refine (hpull _).trans ?_;rw [Zk hp _ x (hx x (by rw [B1]; exact List.mem_cons_self)) (by simp only [bm, bi, bj]; omega), ba];rw [HP (by simp only [bm, bi, bj]; omega), ba];rw [ZS _ x o4 rc (by simp only [bm, bi, bj]; omega) ih, ba];rw [HP (by simp only [bm, bi, bj]; omega), ba];rw [HP (by simp only [bm, bi, bj]; omega), ba];rw [HP (by simp only [bm, bi, bj]; omega), ba];simp only [List.append_assoc]

set_option linter.unusedSimpArgs false
set_option linter.unusedVariables false
set_option maxRecDepth 20000
theorem O8 {ps : List (List By8)} (hp : okP ps) (n : Ac) : (nmX ps n).length <= 23 + n.Local.length := by
 have hl := hp.len;have hp := GX n.URI ps;have := JO (Dk n.URI ps) (by omega);unfold nmX;split
 ·omega
 ·split <;> simp only [bm, bi, bj] <;> omega
theorem KF {ps : List (List By8)} (hp : okP ps) : ∀ l : List Ae, (Ef ps l).length <= 60 * (List.map (fun x : Ae => ((((x.Name.URI.length + 1) + ((x.Name.Local.length + 1) + 0)) + 1) + ((x.Value.length + 1) + 0)) + 1) l).sum
 | [] => by simp [Ef]
 | a :: l => by
  have h1 := KF hp l;have h2 := O8 hp a.Name;have h3 := Hs JK a.Value;have e : Ef ps (a :: l) = TJ ps a ++ Ef ps l := by unfold Ef; simp
  rw [e, bm, List.map_cons, List.sum_cons];unfold TJ;simp only [bm, bi, bj];omega
mutual
theorem P0 {ps : List (List By8)} (hp : okP ps) : ∀ x : Aa, (shN ps x false).length <= 60 * szN x
 | ⟨K, N, A, Ks, T⟩ => by
  have h1 := PB hp Ks;have h2 := KF hp A;have h3 := O8 hp N;have h4 := Hs MG T;simp only [szN, Aq, shN];split
  ·omega
  split
  ·simp only [bm, bi, bj]; omega
  split
  ·split <;> simp only [bm, bi, bj] <;> omega
  ·simp only [Bool.false_eq_true, if_false, bm, bi, bj];omega
theorem PB {ps : List (List By8)} (hp : okP ps) : ∀ l : List Aa, (shL ps l).length <= 60 * Fa l
 | [] => by simp [shL]
 | k :: l => by
  have h1 := P0 hp k;have h2 := PB hp l;simp only [shL, Fa, bm];have : szN k = Aq k := rfl;omega
end
theorem Sr {ps : List (List By8)} (x : Aa) : (shN ps x true).length <= (shN ps x false).length + (nsX ps ps.length).length := by
 rw [Lb, Lb];split
 ·omega
 split
 ·omega
 split
 ·omega
 ·simp only [if_true, Bool.false_eq_true, if_false, bm, bi, bj];omega
theorem MR : ∀ (n : Nat) (x : Aa), szN x < n -> (∀ y ∈ AD x, EF y = true) -> ∀ y ∈ B4 x.Kids, y.Kind = 2 \/ y.Kind = 3 \/ y.Kind = 4 \/ y.Kind = 5
 | 0, x, h, _, _, _ => by omega
 | n + 1, x, h, hx, y, hy => by
  have hk := DO x;have hfl : ∀ (l : List Aa) (y : Aa), y ∈ B4 l -> ∃ k ∈ l, y ∈ AD k := by
   intro l
   induction l with
   | nil => intro y hy; simp [B4] at hy
   | cons k l ih =>
    intro y hy;simp only [B4, List.mem_append] at hy;rcases hy with hy | hy
    ·exact ⟨k, List.mem_cons_self, hy⟩
    ·obtain ⟨k', h1, h2⟩ := ih y hy;exact ⟨k', List.mem_cons_of_mem _ h1, h2⟩
  obtain ⟨k, hkm, hyk⟩ := hfl _ _ hy;have hsub : ∀ y ∈ AD k, y ∈ AD x := fun y hy => by
   rw [B1 x];refine List.mem_cons_of_mem _ ?_;obtain ⟨l1, l2, e⟩ := List.append_of_mem hkm;rw [e, CX];simp only [B4];simp [hy]
  have hkk : k.Kind = 2 \/ k.Kind = 3 \/ k.Kind = 4 \/ k.Kind = 5 := by
   have h1 := hx x (by rw [B1]; exact List.mem_cons_self);unfold EF at h1;have h2 := List.all_eq_true.1 (Bool.and_eq_true_iff.1 h1).1 k hkm;unfold Hv HT at h2;simp only [Bool.or_eq_true, Bool.and_eq_true, beq_iff_eq] at h2;omega
  rw [B1] at hyk;rcases List.mem_cons.1 hyk with e | e
  ·subst e; exact hkk
  ·exact MR n k (by have := Gt hkm; omega) (fun z hz => hx z (hsub z hz)) y e
theorem P2 (s : List By8) : Kt s = true ↔ s ≠ [] := by unfold Kt; simp
theorem Sh {d y : Aa} (hy : y ∈ AD d) {u : List By8} (hu : u = y.Name.URI \/ ∃ a ∈ y.Attrs, u = a.Name.URI) (hne : u ≠ []) : u ∈ CK d := by
 unfold CK;rw [List.mem_flatMap];refine ⟨y, hy, ?_⟩;unfold Hq;rw [List.mem_filter];refine ⟨?_, (P2 u).2 hne⟩;rcases hu with rfl | ⟨a, ha, rfl⟩
 ·simp
 ·simp only [List.mem_append, List.mem_map];exact .inr ⟨a, ha, rfl⟩
theorem MH {d : Aa} : ∀ u ∈ CK d, u ≠ [] /\ u.length <= szN d := by
 intro u hu;unfold CK at hu;obtain ⟨y, hy, h⟩ := List.mem_flatMap.1 hu;unfold Hq at h;obtain ⟨h1, h2⟩ := List.mem_filter.1 h;refine ⟨(P2 u).1 h2, ?_⟩;have hz := FA d y hy;rcases List.mem_append.1 h1 with h | h
 ·rw [List.mem_singleton] at h; subst h;exact Nat.le_trans (EO y).1 hz
 ·obtain ⟨a, ha, rfl⟩ := List.mem_map.1 h;exact Nat.le_trans (FZ ha).1 hz
theorem PX_ok (d : Aa) (hd : szN d <= 1049600) : okP (PX d) := by
 refine ⟨PX_ss d, fun h => ?_, Nat.le_trans (PX_len d) hd, fun x hx => ?_⟩
 ·exact (MH _ ((PX_mem d _).1 h).1).1 rfl
 ·exact Nat.le_trans (MH _ ((PX_mem d x).1 hx).1).2 hd
theorem OE {d y : Aa} (hd : szN d <= 1049600) (hy : y ∈ AD d) {n : Ac} (hu : n.URI = y.Name.URI \/ ∃ a ∈ y.Attrs, n.URI = a.Name.URI) (hl : n.Local.length <= 1049600) (hl2 : n.URI.length <= 1049600) : Up (PX d) n := by
 refine ⟨?_, hl, hl2⟩;by_cases e1 : n.URI = []
 ·exact .inl e1
 by_cases e2 : n.URI = HQ
 ·exact .inr (.inl e2)
 ·exact .inr (.inr ((PX_mem d _).2 ⟨Sh hy hu e1, e2⟩))
theorem RF {d : Aa} (hd : szN d <= 1049600) (hk : ∀ y ∈ AD d, EF y = true) : ∀ y ∈ B4 d.Kids, okD (PX d) y := by
 intro y hy;have hyd : y ∈ AD d := by rw [B1]; exact List.mem_cons_of_mem _ hy
 have hz := Nat.le_trans (FA d y hyd) hd;have hn := EO y;refine ⟨OE hd hyd (.inl rfl) (by omega) (by omega), fun a ha => ?_, Nat.le_trans (CH y) hz, Nat.le_trans (Br y) hz, by omega, MR (szN d + 1) d (by omega) hk y hy⟩;have := FZ ha;exact ⟨OE hd hyd (.inr ⟨a, ha, rfl⟩) (by omega) (by omega), by omega⟩
def EG (ps : List (List By8)) (l : List Aa) : List By8 := l.flatMap fun k => shN ps k true ++ [10]
theorem M7 {ps : List (List By8)} {l : List Aa} {i : Nat} (h : i < l.length) : EG ps (l.take (i + 1)) = EG ps (l.take i) ++ (shN ps l[i] true ++ [10]) := by unfold EG; rw [FF h, List.flatMap_append]; simp
def wrX (t : List By8) : List By8 × Int := if 65536 < t.length then ([], 6) else (t, 0)
theorem O4 {ps : List (List By8)} (hp : okP ps) : ∀ l : List Aa, (EG ps l).length <= 60 * Fa l + l.length * (1 + (nsX ps ps.length).length)
 | [] => by simp [EG]
 | k :: l => by
  have h1 := O4 hp l;have h2 := Sr (ps := ps) k;have h3 := P0 hp k;have e : EG ps (k :: l) = shN ps k true ++ [10] ++ EG ps l := by unfold EG; simp
  have e2 : Fa (k :: l) = szN k + Fa l := rfl;rw [e, e2];simp only [bm, bi, bj, Nat.add_mul, Nat.one_mul];omega

set_option linter.unusedSimpArgs false
set_option linter.unusedVariables false
set_option maxRecDepth 20000
def lnS (l : List (List By8)) : Nat := (l.map List.length).sum
theorem Km (l m : List (List By8)) : lnS (l ++ m) = lnS l + lnS m := by unfold lnS; simp
theorem ED (x : List By8) (l : List (List By8)) : lnS (x :: l) = x.length + lnS l := by unfold lnS; simp
theorem LB {l m : List (List By8)} (h : l.Sublist m) : lnS l <= lnS m := by
 induction h with
 | slnil => exact Nat.le_refl _
 | cons a _ ih => rw [ED]; omega
 | cons_cons a _ ih => rw [ED, ED]; omega
theorem QJ {l m : List (List By8)} (h : l.Perm m) : lnS l = lnS m := by
 induction h with
 | nil => rfl
 | cons a _ ih => rw [ED, ED, ih]
 | swap a b l => simp only [ED]; omega
 | trans _ _ h1 h2 => exact h1.trans h2
theorem L8 (l : List (List By8)) : (Lib.compact l).Sublist l := by
 have h : (Lib.compact l).Sublist ((List.range l.length).map fun j => l.toArray[j]!) := by
  unfold Lib.compact Lib.compactUpTo;exact (List.filter_sublist).map _
 have e : ((List.range l.length).map fun j => l.toArray[j]!) = l := by
  refine List.ext_getElem (by simp) fun i h1 h2 => ?_;simp only [List.getElem_map, List.getElem_range];rw [getElem!_pos _ i (by simpa using h2)]; simp
 rwa [e] at h
theorem P3 (l : List Ae) : lnS (l.map fun a => a.Name.URI) <= (List.map (fun x : Ae => ((((x.Name.URI.length + 1) + ((x.Name.Local.length + 1) + 0)) + 1) + ((x.Value.length + 1) + 0)) + 1) l).sum := by
 induction l with
 | nil => simp [lnS]
 | cons a l ih => rw [List.map_cons, ED, List.map_cons, List.sum_cons]; omega
mutual
theorem Lu : ∀ x : Aa, lnS (CK x) <= szN x
 | ⟨K, N, A, Kids, T⟩ => by
  have h1 := Ls Kids;have h2 := P3 A;have h3 : lnS (Hq ⟨K, N, A, Kids, T⟩) <= lnS ([N.URI] ++ A.map fun a => a.Name.URI) := LB (List.filter_sublist);rw [Km, ED] at h3;rw [Gm, Km];simp only [szN, Aq];have h0 : lnS ([] : List (List By8)) = 0 := rfl;omega
theorem Ls : ∀ l : List Aa, lnS (E5 l) <= Fa l
 | [] => by simp [E5, B4, lnS]
 | k :: l => by
  have h1 := Lu k;have h2 := Ls l;have e : E5 (k :: l) = CK k ++ E5 l := by unfold E5 CK; simp only [B4, List.flatMap_append]
  rw [e, Km];simp only [Fa];have : szN k = Aq k := rfl;omega
end
theorem PX_sum (d : Aa) : lnS (PX d) <= szN d := by
 have h1 := LB (List.filter_sublist (p := fun x => !(x == HQ)) (l := Lib.compact (FN (CK d))));have h2 := LB (L8 (FN (CK d)));have h3 : lnS (FN (CK d)) = lnS (CK d) := QJ (List.mergeSort_perm _ _);have h4 := Lu d;have h5 : lnS (PX d) <= lnS (Lib.compact (FN (CK d))) := h1;omega
theorem MP {ps : List (List By8)} (hp : okP ps) : ∀ k, k <= ps.length -> (nsX ps k).length <= 32 * k + 6 * lnS (ps.take k)
 | 0, _ => by simp [nsX]
 | k + 1, hk => by
  have hl := hp.len;have hk' : k < ps.length := by omega
  have h1 := MP hp k (by omega);have h2 := JO k (by omega);have h3 := Hs JK (ps.getD k []);have e : ps.getD k [] = ps[k] := by rw [List.getD_eq_getElem?_getD, List.getElem?_eq_getElem hk']; rfl
  have h0 : lnS ([] : List (List By8)) = 0 := rfl;rw [Gy, bm, FF hk', Km, ED, h0];unfold L5;rw [e] at h3 ⊢;simp only [bm, bi, bj];omega
theorem Py (d : Aa) (hd : szN d <= 1049600) : (EG (PX d) d.Kids).length <= 100000000000000 := by
 have hp := PX_ok d hd;have h1 := O4 hp d.Kids;have h2 := MP hp (PX d).length (Nat.le_refl _);rw [List.take_length] at h2;have h3 := PX_sum d;have h4 := PX_len d;have h5 := Br d;have h6 := DO d;have h7 : d.Kids.length * (1 + (nsX (PX d) (PX d).length).length) <= 1049600 * 40000000 := Nat.mul_le_mul (by omega) (by omega);omega
theorem RX (ps : List (List By8)) (l : List Aa) (i : Nat) : (EG ps (l.take i)).length <= (EG ps l).length := by
 have e := congrArg (fun l => (EG ps l).length) (List.take_append_drop i l);unfold EG at e ⊢;simp only [List.flatMap_append, bm] at e;omega
theorem V5 {d k : Aa} (hk : k ∈ d.Kids) {y : Aa} (hy : y ∈ AD k) : y ∈ B4 d.Kids := by
 obtain ⟨l1, l2, e⟩ := List.append_of_mem hk;rw [e, CX];simp only [B4];simp [hy]
theorem Z3 (d : Aa) (hd : szN d <= 1049600) (hk : ∀ y ∈ AD d, EF y = true) : iter (Cv d (PX d)) FUEL ([], (0 : Int)) = some (EG (PX d) d.Kids) := by
 have hp := PX_ok d hd;have hD := RF hd hk;have hb := Py d hd;have hkl := Br d;obtain ⟨o, ho, hr⟩ := Ax (b := Cv d (PX d)) (fun i s => s = (EG (PX d) (d.Kids.take i), (i : Int))) (fun o => o = EG (PX d) d.Kids) d.Kids.length (x0 := ([], (0 : Int))) (by simp [EG])
  (fun i s rec hi hs => by
   subst hs;left;refine ⟨(EG (PX d) (d.Kids.take (i + 1)), ((i + 1 : Nat) : Int)), ?_, rfl⟩;have hle := RX (PX d) d.Kids (i + 1);rw [M7 hi] at hle ⊢;simp only [bm, bi, bj] at hle;have hm := bn hi;have hn : Cj ⟨⟨(), EG (PX d) (d.Kids.take i)⟩, PX d⟩ d.Kids[i] true = some (EG (PX d) (d.Kids.take i) ++ shN (PX d) d.Kids[i] true) :=
    Rz hp FUEL _ _ true (by have := HO hm; unfold FUEL; omega) (fun y hy => hD y (V5 hm hy)) (by omega)
   unfold Cv;dsimp only;rw [bf (by omega), bb, Ao hi, ba, hn, ba, Ih (by rw [bm]; omega), ba, ba, w64 (by omega) (by omega), List.append_assoc]
   rfl)
  (fun s rec hs => ⟨EG (PX d) d.Kids, by
   subst hs;unfold Cv;dsimp only
   rw [bg (by omega), bc, List.take_length], rfl⟩) (n := FUEL) (by unfold FUEL; omega)
 rw [ho, hr]
theorem ZW (d : Aa) (hd : szN d <= 1049600) (hk : ∀ y ∈ AD d, EF y = true) : iter (Bq d (PX d)) FUEL ([], (0 : Int)) = some (EG (PX d) d.Kids) := by
 have hp := PX_ok d hd;have hD := RF hd hk;have hb := Py d hd;have hkl := Br d;obtain ⟨o, ho, hr⟩ := Ax (b := Bq d (PX d)) (fun i s => s = (EG (PX d) (d.Kids.take i), (i : Int))) (fun o => o = EG (PX d) d.Kids) d.Kids.length (x0 := ([], (0 : Int))) (by simp [EG])
  (fun i s rec hi hs => by
   subst hs;left;refine ⟨(EG (PX d) (d.Kids.take (i + 1)), ((i + 1 : Nat) : Int)), ?_, rfl⟩;have hle := RX (PX d) d.Kids (i + 1);rw [M7 hi] at hle ⊢;simp only [bm, bi, bj] at hle;have hm := bn hi;have hn : E3 (PX d) d.Kids[i] true = some (shN (PX d) d.Kids[i] true) :=
    Sb hp FUEL _ true (by have := HO hm; unfold FUEL; omega) (fun y hy => hD y (V5 hm hy)) (by omega)
   unfold Bq;dsimp only;rw [bf (by omega), bb, Ao hi, ba, hn, ba, HP (by omega), ba, HP (by simp only [bm, bi, bj]; omega), ba, w64 (by omega) (by omega), List.append_assoc]
   rfl)
  (fun s rec hs => ⟨EG (PX d) d.Kids, by
   subst hs;unfold Bq;dsimp only
   rw [bg (by omega), bc, List.take_length], rfl⟩) (n := FUEL) (by unfold FUEL; omega)
 rw [ho, hr]
theorem Pc {d : Aa} (hd : szN d <= 1049600) (h : AX d = some 0) : (∀ y ∈ AD d, EF y = true) /\ d.Kids ≠ [] := by
 by_cases h1 : d.Kind = 1
 ·obtain ⟨r, e1, e2⟩ := Oy hd h1;have e3 := OA hd h1 e1;rw [h] at e3;injection e3 with e3
  unfold VO at e3;have ha : (AD d).all EF = true := by
   cases ha : (AD d).all EF with
   | true => rfl
   | false => rw [if_pos ha] at e3; omega
  have hr1 : r = 1 := by
   (repeat' split at e3) <;> first | omega | (rename_i hr; exact Classical.byContradiction hr) | skip
  refine ⟨fun y hy => List.all_eq_true.1 ha y hy, fun hk => ?_⟩;have : iter (AL d) FUEL ((0 : Int), (0 : Int)) = some 0 := by
   obtain ⟨m, hm⟩ : ∃ m, FUEL = m + 1 := ⟨FUEL - 1, by unfold FUEL; rfl⟩
   rw [hm, Dc];unfold AL;dsimp only;rw [hk, bg (by simp), bc]
  rw [this] at e1;injection e1 with e1
  omega
 ·exfalso;unfold AX at h;rw [IX d hd, show (d.Kind != (1 : Int)) = true by simpa using h1] at h;simp only [ba, AA, bb] at h;cases h
theorem V4 {ps : List (List By8)} {l : List Aa} (h : l ≠ []) : EG ps l ≠ [] := by
 cases l with
 | nil => exact absurd rfl h
 | cons k l => intro e; unfold EG at e; simp at e
theorem KN (d : Aa) (hd : szN d <= 1049600) : ∃ r, C6 d = some r /\ EA d = some r /\ r.1.length <= 65536 /\ ∃ c, AX d = some c /\ (c = 0 -> r = wrX (EG (PX d) d.Kids)) /\ (c ≠ 0 -> r = ([], c)) := by
 obtain ⟨c, hc, _⟩ := NG d hd;have hc2 := Pv d hd;rw [hc] at hc2;unfold C6 EA AA;dsimp only;rw [hc, hc2, ba, ba];by_cases h0 : c = 0
 ·subst h0;obtain ⟨hk, hne⟩ := Pc hd hc;have hb := Py d hd;rw [show ((0 : Int) != (0 : Int)) = false by rfl, bc, bc, Nj d hd, NP d hd, ba, ba, Z3 d hd hk, ZW d hd hk, ba, ba];refine ⟨wrX (EG (PX d) d.Kids), ?_, ?_, ?_, 0, rfl, fun _ => rfl, fun h => absurd rfl h⟩
  ·unfold wrX;by_cases hl : 65536 < (EG (PX d) d.Kids).length
   ·rw [bf (by omega), bb, if_pos hl]
   ·rw [bg (by omega), bc, if_neg hl];have : gdN (EG (PX d) d.Kids) = some () := by
     unfold gdN
     cases ht : EG (PX d) d.Kids with
     | nil => exact absurd ht (V4 hne)
     | cons a l => rfl
    rw [this, ba]
  ·unfold wrX;by_cases hl : 65536 < (EG (PX d) d.Kids).length
   ·rw [bf (by omega), bb, if_pos hl]
   ·rw [bg (by omega), bc, if_neg hl]
  ·unfold wrX;split
   ·simp
   ·simp only; omega
 ·rw [show (c != (0 : Int)) = true by simpa using h0, bb, bb];exact ⟨_, rfl, rfl, by simp, c, rfl, fun h => absurd h h0, fun _ => rfl⟩
end Go.Proofs.YtjofelloaofooaaGreatDoor
