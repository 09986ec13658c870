/- Canon: names, on both sides. No condition. -/
import Derived.Test.YtjofelloaofooaaGreatDoorX2
set_option linter.unusedSimpArgs false
set_option linter.unusedVariables false
set_option maxRecDepth 20000
namespace Go.Proofs.YtjofelloaofooaaGreatDoor
theorem XV (a b : List By8) : DR a b = some (decide (ET a b < 0)) := by
 unfold DR Cb AJ;simp only [ba, beq_self_eq_true, Bool.not_true, bc, Bool.false_or];rw [Kb]
theorem X6 (a b : Nat) (ha : a <= 4194304) (hb : b <= 4194304) : IntKind.wrap .i64 (Ud .u64 (IntKind.wrap .u64 (IntKind.wrap .i64 ((a : Int) + (b : Int)))) (1 : Int)) = (((a + b) / 2 : Nat) : Int) := by
 have h0 : IntKind.wrap .i64 ((a : Int) + (b : Int)) = (a : Int) + (b : Int) := w64 (by omega) (by omega);have h1 : IntKind.wrap .u64 ((a : Int) + (b : Int)) = ((a + b : Nat) : Int) := by
  simp [IntKind.wrap, IntKind.bits, IntKind.signed];omega
 have h2 : Ud .u64 ((a + b : Nat) : Int) (1 : Int) = (((a + b) / 2 : Nat) : Int) := by
  unfold Ud;rw [show (1 : Int).toNat = 1 from rfl, show min 1 (IntKind.bits .u64) = 1 from rfl, show ((2 : Int) ^ 1) = 2 from rfl, Int.fdiv_eq_ediv_of_nonneg _ (by omega)];omega
 rw [h0, h1, h2, w64 (by omega) (by omega)]
theorem Sv {ps : List (List By8)} (hs : SS ps) {u : List By8} {i : Nat} (hi : i < ps.length) : ET ps[i] u < 0 ↔ i < Eb u ps := by
 constructor
 ·intro h;rcases Nat.lt_or_ge i (Eb u ps) with h' | h'
  ·exact h'
  ·have hp : Eb u ps < ps.length := by omega
   have h2 := L9 u ps hp;exfalso;apply h2;by_cases e : Eb u ps = i
   ·simpa only [e] using h
   ·have h3 := List.pairwise_iff_getElem.1 hs (Eb u ps) i hp hi (by omega);exact Yz h3 (by omega)
 ·exact Ky u ps i hi
theorem PK (ps : List (List By8)) (hs : SS ps) (u : List By8) (hl : ps.length <= 2097152) : iter (AG ps u) FUEL ((0 : Int), (ps.length : Int)) = some (Eb u ps : Int) := by
 have hpl := IL u ps;obtain ⟨o, ho, hr⟩ := AC (b := AG ps u)
  (fun i s => ∃ a b : Nat, s = ((a : Int), (b : Int)) /\ a <= Eb u ps /\ Eb u ps <= b /\ b <= ps.length /\ (b - a) + i <= ps.length) (fun o => o = (Eb u ps : Int)) ps.length (x0 := ((0 : Int), (ps.length : Int))) ⟨0, ps.length, rfl, by omega, hpl, by omega, by omega⟩
  (fun i s rec hi ⟨a, b, hs0, h1, h2, h3, h4⟩ => by
   subst hs0;unfold AG;dsimp only;by_cases hab : a < b
   ·left;have hm : (a + b) / 2 < ps.length := by omega
    rw [bf (by omega), bb, X6 a b (by omega) (by omega), Av hm, ba, XV, ba];by_cases hc : ET ps[(a + b) / 2] u < 0
    ·have hlt := (Sv hs hm).1 hc;refine ⟨((((a + b) / 2 + 1 : Nat) : Int), (b : Int)), ?_, (a + b) / 2 + 1, b, rfl, by omega, h2, h3, by omega⟩;rw [bf hc, bb, w64 (by omega) (by omega)];rfl
    ·have hge : ¬ (a + b) / 2 < Eb u ps := fun h => hc ((Sv hs hm).2 h);refine ⟨((a : Int), (((a + b) / 2 : Nat) : Int)), ?_, a, (a + b) / 2, rfl, h1, by omega, by omega, by omega⟩;rw [bg hc, bc]
   ·right;refine ⟨(a : Int), ?_, by omega⟩
    rw [bg (by omega), bc])
  (fun s rec ⟨a, b, hs0, h1, h2, h3, h4⟩ => ⟨(a : Int), by
   subst hs0;unfold AG;dsimp only
   rw [bg (by omega), bc], by omega⟩) (n := FUEL) (by unfold FUEL; omega)
 rw [ho, hr]
theorem Vf {ps : List (List By8)} (hs : SS ps) {u : List By8} (hu : u ∈ ps) : ∃ h : Eb u ps < ps.length, ps[Eb u ps] = u := by
 obtain ⟨i, hi, e⟩ := List.mem_iff_getElem.1 hu;have h0 : ¬ i < Eb u ps := fun h => by
  have := Ky u ps i hi h;rw [e, DM.refl] at this;omega
 have hp : Eb u ps < ps.length := by omega
 refine ⟨hp, ?_⟩;by_cases e2 : Eb u ps = i
 ·simpa only [e2] using e
 ·have h3 := List.pairwise_iff_getElem.1 hs (Eb u ps) i hp hi (by omega);rw [e] at h3;exact absurd h3 (L9 u ps hp)
theorem Wj (ps : List (List By8)) (hs : SS ps) (u : List By8) (hu : u ∈ ps) (hl : ps.length <= 2097152) : A8 ps u = some ((Eb u ps : Int), true) := by
 obtain ⟨hp, e⟩ := Vf hs hu;unfold A8 AJ;dsimp only;rw [PK ps hs u hl, ba, bf (by omega), bb, Av hp, ba, e, beq_self_eq_true, bb]
def TD (i : Nat) : List By8 := [110] ++ Lib.decDigits (i + 1)
def nmX (ps : List (List By8)) (n : Ad) : List By8 :=
 if n.URI = [] then n.Local else if n.URI = JP then [120, 109, 108, 58] ++ n.Local else TD (Eb n.URI ps) ++ [58] ++ n.Local
theorem LP (i : Nat) (h : i <= 2097151) : (TD i).length <= 22 := by
 have := To (i + 1) (by omega);unfold TD;simp only [bm, bi, bj];omega
theorem Pq (i : Nat) (h : i <= 2097151) : D6 (i : Int) = some (TD i) := by
 have hd := To (i + 1) (by omega);have e : L_Itoa (IntKind.wrap .i64 ((i : Int) + 1)) = some (Lib.decDigits (i + 1)) := by
  rw [w64 (by omega) (by omega)];unfold L_Itoa;rw [if_pos (by omega)];have := Lib.itoa_nonneg (i + 1);rw [show ((i : Int) + 1) = ((i + 1 : Nat) : Int) by omega, this]
 unfold D6;rw [e, ba, Fe (by simp only [bi, bj]; omega), ba];rfl
def Ya (ps : List (List By8)) (n : Ad) : Prop := (n.URI = [] \/ n.URI = JP \/ n.URI ∈ ps) /\ n.Local.length <= 1049600 /\ n.URI.length <= 1049600
theorem U1 (b : List By8) (ps : List (List By8)) (hs : SS ps) (hl : ps.length <= 2097151) (n : Ad) (hn : Ya ps n) : CX ⟨⟨(), b⟩, ps⟩ n = some (nmX ps n) := by
 obtain ⟨h1, h2, _⟩ := hn;unfold CX nmX;by_cases e1 : n.URI = []
 ·rw [if_pos e1, show (n.URI == ([] : List By8)) = true by simp [e1], bb]
 ·rw [if_neg e1, show (n.URI == ([] : List By8)) = false by simp [e1], bc];by_cases e2 : n.URI = JP
  ·rw [if_pos e2];have e3 : (n.URI == JP) = true := by simp [e2]
   unfold JP at e3;rw [e3, bb, Fe (by simp only [bi, bj]; omega), ba]
  ·rw [if_neg e2];have e3 : (n.URI == JP) = false := by simp [e2]
   unfold JP at e3;have hu : n.URI ∈ ps := by rcases h1 with h | h | h <;> first | exact absurd h e1 | exact absurd h e2 | exact h
   have hp := IL n.URI ps;have hx := LP (Eb n.URI ps) (by omega);rw [e3, bc, Wj ps hs _ hu (by omega), ba];dsimp only;rw [Pq _ (by omega), ba, Fe (by simp only [bi, bj]; omega), ba, Fe (by simp only [bm, bi, bj]; omega), ba]
theorem Acg (ps : List (List By8)) (hs : SS ps) (h0 : [] ∉ ps) (hl : ps.length <= 2097151) (n : Ad) (hn : Ya ps n) : Bn ps n = some (nmX ps n) := by
 obtain ⟨h1, h2, _⟩ := hn;unfold Bn nmX AJ;by_cases e2 : n.URI = JP
 ·have e3 : (n.URI == JP) = true := by simp [e2]
  have e1 : n.URI ≠ [] := by rw [e2]; decide
  unfold JP at e3;rw [if_neg e1, if_pos e2, e3, bb, Fe (by simp only [bi, bj]; omega), ba]
 ·have e3 : (n.URI == JP) = false := by simp [e2]
  unfold JP at e3;rw [e3, bc];dsimp only;by_cases e1 : n.URI = []
  ·rw [if_pos e1];obtain ⟨o, ho, hr⟩ := AC (b := A6 ps n) (fun i s => s = (i : Int)) (fun o => o = .inl ()) ps.length (x0 := (0 : Int)) rfl
    (fun i s rec hi hs => by
     subst hs;left;refine ⟨((i + 1 : Nat) : Int), ?_, rfl⟩;have hne : ps[i] ≠ [] := fun e => h0 (e ▸ bn hi);unfold A6;rw [bf (by omega), bb, Av hi, ba, e1, show (ps[i] == ([] : List By8)) = false by simp [hne], bc, w64 (by omega) (by omega)]
     rfl)
    (fun s rec hs => ⟨.inl (), by
     subst hs;unfold A6
     rw [bg (by omega), bc], rfl⟩) (n := FUEL) (by unfold FUEL; omega)
   rw [ho, ba, hr]
  ·rw [if_neg e1, if_neg e2];have hu : n.URI ∈ ps := by rcases h1 with h | h | h <;> first | exact absurd h e1 | exact absurd h e2 | exact h
   obtain ⟨hp, hat⟩ := Vf hs hu;have hd := To (Eb n.URI ps + 1) (by omega);obtain ⟨o, ho, hr⟩ := AC (b := A6 ps n) (fun i s => s = (i : Int) /\ i <= Eb n.URI ps) (fun o => o = .inr (TD (Eb n.URI ps) ++ [58] ++ n.Local)) (Eb n.URI ps) (x0 := (0 : Int)) ⟨rfl, by omega⟩
    (fun i s rec hi ⟨hs0, _⟩ => by
     subst hs0;left;refine ⟨((i + 1 : Nat) : Int), ?_, rfl, by omega⟩;have hlt : i < ps.length := by omega
     have hne : ps[i] ≠ n.URI := W2 (Ky n.URI ps i hlt hi);unfold A6;rw [bf (by omega), bb, Av hlt, ba, show (ps[i] == n.URI) = false by simp [hne], bc, w64 (by omega) (by omega)]
     rfl)
    (fun s rec ⟨hs0, _⟩ => ⟨.inr (TD (Eb n.URI ps) ++ [58] ++ n.Local), by
     subst hs0;unfold A6;rw [bf (by omega), bb, Av hp, ba, hat, beq_self_eq_true, bb, w64 (by omega) (by omega)];have e := Zb (Eb n.URI ps + 1) (by omega) (by omega);rw [show ((Eb n.URI ps : Int) + 1) = ((Eb n.URI ps + 1 : Nat) : Int) by omega, e, ba, Fe (by simp only [bi, bj]; omega), ba, Fe (by simp only [bm, bi, bj]; omega), ba, Fe (by simp only [bm, bi, bj]; omega), ba]
     rfl, rfl⟩) (n := FUEL) (by unfold FUEL; omega)
   rw [ho, ba, hr]

set_option linter.unusedSimpArgs false
set_option linter.unusedVariables false
set_option maxRecDepth 20000
def Oo (ps : List (List By8)) (i : Nat) : List By8 := [32, 120, 109, 108, 110, 115, 58] ++ TD i ++ [61, 34] ++ (ps.getD i []).flatMap escQ ++ [34]
def nsX (ps : List (List By8)) (k : Nat) : List By8 := (List.range k).flatMap (Oo ps)
def WK (ps : List (List By8)) (a : Ae) : List By8 := [32] ++ nmX ps a.Name ++ [61, 34] ++ a.Value.flatMap escQ ++ [34]
def E1 (ps : List (List By8)) (l : List Ae) : List By8 := l.flatMap (WK ps)
mutual
def shN (ps : List (List By8)) : Ab -> Bool -> List By8
 | ⟨K, N, A, Ks, T⟩, top =>
  if K = 3 then T.flatMap escT
  else if K = 4 then [60, 33, 45, 45] ++ T ++ [45, 45, 62]
  else if K = 5 then [60, 63] ++ N.Local ++ (if T = [] then [] else [32] ++ T) ++ [63, 62]
  else [60] ++ nmX ps N ++ (if top then nsX ps ps.length else []) ++ E1 ps A ++ [62] ++ shL ps Ks ++ ([60, 47] ++ nmX ps N ++ [62])
def shL (ps : List (List By8)) : List Ab -> List By8
 | [] => []
 | k :: l => shN ps k false ++ shL ps l
end
theorem PE (ps : List (List By8)) (x : Ab) (top : Bool) : shN ps x top =
  if x.Kind = 3 then x.Text.flatMap escT
  else if x.Kind = 4 then [60, 33, 45, 45] ++ x.Text ++ [45, 45, 62]
  else if x.Kind = 5 then [60, 63] ++ x.Name.Local ++ (if x.Text = [] then [] else [32] ++ x.Text) ++ [63, 62]
  else [60] ++ nmX ps x.Name ++ (if top then nsX ps ps.length else []) ++ E1 ps x.Attrs ++ [62] ++ shL ps x.Kids ++ ([60, 47] ++ nmX ps x.Name ++ [62]) := by cases x; simp only [shN]
theorem N3 (ps : List (List By8)) : ∀ l m : List Ab, shL ps (l ++ m) = shL ps l ++ shL ps m
 | [], m => by simp [shL]
 | k :: l, m => by simp [shL, N3 ps l m]
theorem Kd (ps : List (List By8)) {l : List Ab} {i : Nat} (h : i < l.length) : shL ps (l.take (i + 1)) = shL ps (l.take i) ++ shN ps l[i] false := by
 rw [Gc h, N3]; simp [shL]
theorem UF (ps : List (List By8)) (l : List Ab) (i : Nat) : (shL ps (l.take i)).length <= (shL ps l).length := by
 have e := congrArg (fun l => (shL ps l).length) (List.take_append_drop i l);simp only [N3, bm] at e;omega
theorem Ip (ps : List (List By8)) (k : Nat) : nsX ps (k + 1) = nsX ps k ++ Oo ps k := by unfold nsX; rw [List.range_succ, List.flatMap_append]; simp
theorem Rm (ps : List (List By8)) : ∀ (n k : Nat), (nsX ps k).length <= (nsX ps (k + n)).length
 | 0, k => Nat.le_refl _
 | n + 1, k => by have := Rm ps n k; rw [<- Nat.add_assoc, Ip, bm]; omega
theorem Ij (ps : List (List By8)) {l : List Ae} {i : Nat} (h : i < l.length) : E1 ps (l.take (i + 1)) = E1 ps (l.take i) ++ WK ps l[i] := by unfold E1; rw [Gc h, List.flatMap_append]; simp
theorem Px (ps : List (List By8)) (l : List Ae) (i : Nat) : (E1 ps (l.take i)).length <= (E1 ps l).length := by
 have e := congrArg (fun l => (E1 ps l).length) (List.take_append_drop i l);unfold E1 at e ⊢;simp only [List.flatMap_append, bm] at e;omega
structure okP (ps : List (List By8)) : Prop where
 ss : SS ps
 ne : [] ∉ ps
 len : ps.length <= 1049600
 each : ∀ x ∈ ps, x.length <= 1049600
def okD (ps : List (List By8)) (x : Ab) : Prop := Ya ps x.Name /\ (∀ a ∈ x.Attrs, Ya ps a.Name /\ a.Value.length <= 1049600) /\ x.Attrs.length <= 1049600 /\ x.Kids.length <= 1049600 /\ x.Text.length <= 1049600 /\ (x.Kind = 2 \/ x.Kind = 3 \/ x.Kind = 4 \/ x.Kind = 5)
theorem Sc (b : List By8) (ps L : List (List By8)) (hL : L.length <= 1000) (h : b.length + L.flatten.length <= 140737488355328) : Ay ⟨⟨(), b⟩, ps⟩ L = some (b ++ L.flatten) := WG ⟨⟨(), b⟩, ps⟩ L hL h
theorem Adu {ps : List (List By8)} (hp : okP ps) (b0 b : List By8) (top : Bool) (h : b.length + (if top then nsX ps ps.length else []).length <= 140737488355328) :
  iter (BG ⟨⟨(), b0⟩, ps⟩ top) FUEL (b, (0 : Int)) = some (b ++ if top then nsX ps ps.length else []) := by
 have hpl := hp.len;obtain ⟨o, ho, hr⟩ := AC (b := BG ⟨⟨(), b0⟩, ps⟩ top) (fun i s => s = (b ++ (if top then nsX ps i else []), (i : Int))) (fun o => o = b ++ if top then nsX ps ps.length else []) ps.length (x0 := (b, (0 : Int))) (by cases top <;> simp [nsX])
  (fun i s rec hi hs => by
   subst hs;left;refine ⟨(b ++ (if top then nsX ps (i + 1) else []), ((i + 1 : Nat) : Int)), ?_, rfl⟩;unfold BG AJ;dsimp only;rw [bf (by omega), bb, Av hi, ba, w64 (by omega) (by omega)]
   cases top with
   | true =>
    have he := hp.each _ (bn hi);have hle := Rm ps (ps.length - (i + 1)) (i + 1);rw [show i + 1 + (ps.length - (i + 1)) = ps.length by omega, Ip, bm] at hle;have hone : Oo ps i = ([([32, 120, 109, 108, 110, 115, 58] : List By8), TD i, ([61, 34] : List By8), ps[i].flatMap escQ, ([34] : List By8)] : List (List By8)).flatten := by
     unfold Oo;rw [List.getD_eq_getElem?_getD, List.getElem?_eq_getElem hi];simp
    simp only [if_true] at h ⊢;rw [bb, Pq i (by omega), ba, Sw _ he, ba, Sc _ _ _ (by simp) (by rw [<- hone, bm]; omega), ba, <- hone, Ip, List.append_assoc];rfl
   | false =>
    simp only [Bool.false_eq_true, if_false];rw [bc]
    rfl)
  (fun s rec hs => ⟨b ++ if top then nsX ps ps.length else [], by
   subst hs;unfold BG;dsimp only
   rw [bg (by omega), bc], rfl⟩) (n := FUEL) (by unfold FUEL; omega)
 rw [ho, hr]
theorem Adg {ps : List (List By8)} (hp : okP ps) (b0 b : List By8) (x : Ab) (hx : okD ps x) (h : b.length + (E1 ps x.Attrs).length <= 140737488355328) :
  iter (BI ⟨⟨(), b0⟩, ps⟩ x) FUEL (b, (0 : Int)) = some (b ++ E1 ps x.Attrs) := by
 obtain ⟨_, ha, hal, _⟩ := hx;have hpl := hp.len;obtain ⟨o, ho, hr⟩ := AC (b := BI ⟨⟨(), b0⟩, ps⟩ x) (fun i s => s = (b ++ E1 ps (x.Attrs.take i), (i : Int))) (fun o => o = b ++ E1 ps x.Attrs) x.Attrs.length (x0 := (b, (0 : Int))) (by simp [E1])
  (fun i s rec hi hs => by
   subst hs;left;refine ⟨(b ++ E1 ps (x.Attrs.take (i + 1)), ((i + 1 : Nat) : Int)), ?_, rfl⟩;obtain ⟨h1, h2⟩ := ha _ (bn hi);have hle := Px ps x.Attrs (i + 1);rw [Ij ps hi, bm] at hle;have hone : WK ps x.Attrs[i] = ([([32] : List By8), nmX ps x.Attrs[i].Name, ([61, 34] : List By8), x.Attrs[i].Value.flatMap escQ, ([34] : List By8)] : List (List By8)).flatten := by
    unfold WK;simp
   unfold BI;dsimp only;rw [bf (by omega), bb, Av hi, ba, U1 _ ps hp.ss (by omega) _ h1, ba, Sw _ h2, ba, Sc _ _ _ (by simp) (by rw [<- hone, bm]; omega), ba, <- hone, Ij ps hi, List.append_assoc, w64 (by omega) (by omega)]
   rfl)
  (fun s rec hs => ⟨b ++ E1 ps x.Attrs, by
   subst hs;unfold BI;dsimp only
   rw [bg (by omega), bc, List.take_length], rfl⟩) (n := FUEL) (by unfold FUEL; omega)
 rw [ho, hr]
theorem Aen {ps : List (List By8)} (b0 b : List By8) (x : Ab) (hx : x.Kids.length <= 1049600) (rc : Ai × Ab × Bool -> Option (List By8))
  (h : b.length + (shL ps x.Kids).length <= 140737488355328) (hrc : ∀ k ∈ x.Kids, ∀ b : List By8, b.length + (shN ps k false).length <= 140737488355328 -> rc (⟨⟨(), b⟩, ps⟩, k, false) = some (b ++ shN ps k false)) :
  iter (BH ⟨⟨(), b0⟩, ps⟩ x rc) FUEL (b, (0 : Int)) = some (b ++ shL ps x.Kids) := by
 obtain ⟨o, ho, hr⟩ := AC (b := BH ⟨⟨(), b0⟩, ps⟩ x rc) (fun i s => s = (b ++ shL ps (x.Kids.take i), (i : Int))) (fun o => o = b ++ shL ps x.Kids) x.Kids.length (x0 := (b, (0 : Int))) (by simp [shL])
  (fun i s rec hi hs => by
   subst hs;left;refine ⟨(b ++ shL ps (x.Kids.take (i + 1)), ((i + 1 : Nat) : Int)), ?_, rfl⟩;have hle := UF ps x.Kids (i + 1);rw [Kd ps hi, bm] at hle;unfold BH;dsimp only;rw [bf (by omega), bb, Av hi, ba, hrc _ (bn hi) _ (by rw [bm]; omega), ba, Kd ps hi, List.append_assoc, w64 (by omega) (by omega)]
   rfl)
  (fun s rec hs => ⟨b ++ shL ps x.Kids, by
   subst hs;unfold BH;dsimp only
   rw [bg (by omega), bc, List.take_length], rfl⟩) (n := FUEL) (by unfold FUEL; omega)
 rw [ho, hr]
theorem UP {ps : List (List By8)} (hp : okP ps) : ∀ (n : Nat) (x : Ab) (b : List By8) (top : Bool), szN x < n -> (∀ y ∈ AU x, okD ps y) -> b.length + (shN ps x top).length <= 140737488355328 ->
  iter AL n (⟨⟨(), b⟩, ps⟩, x, top) = some (b ++ shN ps x top)
 | 0, x, b, top, h, _, _ => by omega
 | n + 1, x, b, top, h, hx, hb => by
  have hpl := hp.len;have hk := EX x;obtain ⟨o1, o2, o3, o4, o5, o6⟩ := hx x (by rw [Dk]; exact List.mem_cons_self)
  have hkid : ∀ k ∈ x.Kids, ∀ y ∈ AU k, okD ps y := fun k hk y hy => hx y (by
   rw [Dk];refine List.mem_cons_of_mem _ ?_;obtain ⟨l1, l2, e⟩ := List.append_of_mem hk;rw [e, Em];simp only [Dh]
   simp [hy])
  have ih : ∀ k ∈ x.Kids, ∀ b : List By8, b.length + (shN ps k false).length <= 140737488355328 -> iter AL n (⟨⟨(), b⟩, ps⟩, k, false) = some (b ++ shN ps k false) := fun k hk b hb => UP hp n k b false (by have := Im hk; omega) (hkid k hk) hb;rw [DH];generalize iter AL n = rc at ih ⊢;rw [PE] at hb ⊢;unfold AL AJ;dsimp only;by_cases e3 : x.Kind = 3
  ·rw [if_pos e3] at hb ⊢;rw [show (x.Kind == (3 : Int)) = true by simp [e3], bb, Ye _ o5, ba, Sc _ _ _ (by simp) (by simp only [List.flatten_cons, List.flatten_nil, List.append_nil]; omega), ba];simp
  rw [if_neg e3] at hb ⊢;rw [show (x.Kind == (3 : Int)) = false by simp [e3], bc];by_cases e4 : x.Kind = 4
  ·rw [if_pos e4] at hb ⊢;rw [show (x.Kind == (4 : Int)) = true by simp [e4], bb, Sc _ _ _ (by simp) (by simp only [List.flatten_cons, List.flatten_nil, List.append_nil, bm, bi, bj] at hb ⊢; omega), ba];simp
  rw [if_neg e4] at hb ⊢;rw [show (x.Kind == (4 : Int)) = false by simp [e4], bc];by_cases e5 : x.Kind = 5
  ·rw [if_pos e5] at hb ⊢;rw [show (x.Kind == (5 : Int)) = true by simp [e5], bb, Sc _ _ _ (by simp) (by simp only [List.flatten_cons, List.flatten_nil, List.append_nil, bm, bi, bj] at hb ⊢; omega), ba];by_cases et : x.Text = []
   ·rw [if_pos et] at hb ⊢;rw [et, show (!(([] : List By8) == ([] : List By8))) = false by decide, bc, Sc _ _ _ (by simp) (by simp only [List.flatten_cons, List.flatten_nil, List.append_nil, bm, bi, bj] at hb ⊢; omega), ba];simp
   ·rw [if_neg et] at hb ⊢;rw [show (!(x.Text == ([] : List By8))) = true by simp [et], bb, Sc _ _ _ (by simp) (by simp only [List.flatten_cons, List.flatten_nil, List.append_nil, bm, bi, bj] at hb ⊢; omega), ba, Sc _ _ _ (by simp) (by simp only [List.flatten_cons, List.flatten_nil, List.append_nil, bm, bi, bj] at hb ⊢; omega), ba];simp
  rw [if_neg e5] at hb ⊢;have e2 : x.Kind = 2 := by rcases o6 with h | h | h | h <;> first | exact h | exact absurd h e3 | exact absurd h e4 | exact absurd h e5
  rw [show (x.Kind == (5 : Int)) = false by simp [e5], bc, show (x.Kind == (2 : Int)) = true by simp [e2], bb];unfold Cf AJ;dsimp only;simp only [bm, bi, bj] at hb;rw [U1 _ ps hp.ss (by omega) _ o1, ba, Sc _ _ _ (by simp) (by simp only [List.flatten_cons, List.flatten_nil, List.append_nil, bm, bi, bj]; omega), ba];rw [Adu hp _ _ top (by simp only [List.flatten_cons, List.flatten_nil, List.append_nil, bm, bi, bj]; omega), ba];rw [Adg hp _ _ x (hx x (by rw [Dk]; exact List.mem_cons_self)) (by simp only [List.flatten_cons, List.flatten_nil, List.append_nil, bm, bi, bj]; omega), ba];rw [Sc _ _ _ (by simp) (by simp only [List.flatten_cons, List.flatten_nil, List.append_nil, bm, bi, bj]; omega), ba];rw [Aen _ _ x o4 rc (by simp only [List.flatten_cons, List.flatten_nil, List.append_nil, bm, bi, bj]; omega) ih, ba];rw [Sc _ _ _ (by simp) (by simp only [List.flatten_cons, List.flatten_nil, List.append_nil, bm, bi, bj]; omega), ba];simp

set_option linter.unusedSimpArgs false
set_option linter.unusedVariables false
set_option maxRecDepth 20000
theorem JL {a b : List By8} (h : a.length + b.length <= 140737488355328) : cat a b = some (a ++ b) := Fe (by omega)
theorem Aeq {ps : List (List By8)} (hp : okP ps) (b : List By8) (h : b.length + (nsX ps ps.length).length <= 140737488355328) :
  iter (BN ps) FUEL (b, (0 : Int)) = some (b ++ nsX ps ps.length) := by
 have hpl := hp.len;obtain ⟨o, ho, hr⟩ := AC (b := BN ps) (fun i s => s = (b ++ nsX ps i, (i : Int))) (fun o => o = b ++ nsX ps ps.length) ps.length (x0 := (b, (0 : Int))) (by simp [nsX])
  (fun i s rec hi hs => by
   subst hs;left;refine ⟨(b ++ nsX ps (i + 1), ((i + 1 : Nat) : Int)), ?_, rfl⟩;have he := hp.each _ (bn hi);have hle := Rm ps (ps.length - (i + 1)) (i + 1);rw [show i + 1 + (ps.length - (i + 1)) = ps.length by omega, Ip, bm] at hle;have hd := Zb (i + 1) (by omega) (by omega);have hone : Oo ps i = [32, 120, 109, 108, 110, 115, 58, 110] ++ Lib.decDigits (i + 1) ++ [61, 34] ++ ps[i].flatMap escQ ++ [34] := by
    unfold Oo TD;rw [List.getD_eq_getElem?_getD, List.getElem?_eq_getElem hi];simp
   rw [Ip, hone];rw [hone] at hle;simp only [bm, bi, bj] at hle;unfold BN;dsimp only;rw [bf (by omega), bb, Av hi, ba, w64 (by omega) (by omega), show ((i : Int) + 1) = ((i + 1 : Nat) : Int) by omega, hd];rw [JL (by simp only [bm, bi, bj]; omega), ba, ba];rw [JL (by simp only [bm, bi, bj]; omega), ba];rw [JL (by simp only [bm, bi, bj]; omega), ba, R3 _ he, ba];rw [JL (by simp only [bm, bi, bj]; omega), ba];rw [JL (by simp only [bm, bi, bj]; omega), ba]
   simp only [List.append_assoc])
  (fun s rec hs => ⟨b ++ nsX ps ps.length, by
   subst hs;unfold BN;dsimp only
   rw [bg (by omega), bc], rfl⟩) (n := FUEL) (by unfold FUEL; omega)
 rw [ho, hr]
theorem Ady {ps : List (List By8)} (hp : okP ps) (b : List By8) (x : Ab) (hx : okD ps x) (h : b.length + (E1 ps x.Attrs).length <= 140737488355328) :
  iter (Cg ps x) FUEL (b, (0 : Int)) = some (b ++ E1 ps x.Attrs) := by
 obtain ⟨_, ha, hal, _⟩ := hx;have hpl := hp.len;obtain ⟨o, ho, hr⟩ := AC (b := Cg ps x) (fun i s => s = (b ++ E1 ps (x.Attrs.take i), (i : Int))) (fun o => o = b ++ E1 ps x.Attrs) x.Attrs.length (x0 := (b, (0 : Int))) (by simp [E1])
  (fun i s rec hi hs => by
   subst hs;left;refine ⟨(b ++ E1 ps (x.Attrs.take (i + 1)), ((i + 1 : Nat) : Int)), ?_, rfl⟩;obtain ⟨h1, h2⟩ := ha _ (bn hi);have hle := Px ps x.Attrs (i + 1);rw [Ij ps hi, bm] at hle;rw [Ij ps hi];unfold WK at hle ⊢;simp only [bm, bi, bj] at hle;unfold Cg;dsimp only;rw [bf (by omega), bb, Av hi, ba];rw [JL (by simp only [bm, bi, bj]; omega), ba, Acg ps hp.ss hp.ne (by omega) _ h1, ba];rw [JL (by simp only [bm, bi, bj]; omega), ba];rw [JL (by simp only [bm, bi, bj]; omega), ba, R3 _ h2, ba];rw [JL (by simp only [bm, bi, bj]; omega), ba];rw [JL (by simp only [bm, bi, bj]; omega), ba, w64 (by omega) (by omega)];simp only [List.append_assoc]
   rfl)
  (fun s rec hs => ⟨b ++ E1 ps x.Attrs, by
   subst hs;unfold Cg;dsimp only
   rw [bg (by omega), bc, List.take_length], rfl⟩) (n := FUEL) (by unfold FUEL; omega)
 rw [ho, hr]
theorem Adw {ps : List (List By8)} (b : List By8) (x : Ab) (hx : x.Kids.length <= 1049600) (rc : List (List By8) × Ab × Bool -> Option (List By8))
  (h : b.length + (shL ps x.Kids).length <= 140737488355328) (hrc : ∀ k ∈ x.Kids, (shN ps k false).length <= 140737488355328 -> rc (ps, k, false) = some (shN ps k false)) :
  iter (Ch ps x rc) FUEL (b, (0 : Int)) = some (b ++ shL ps x.Kids) := by
 obtain ⟨o, ho, hr⟩ := AC (b := Ch ps x rc) (fun i s => s = (b ++ shL ps (x.Kids.take i), (i : Int))) (fun o => o = b ++ shL ps x.Kids) x.Kids.length (x0 := (b, (0 : Int))) (by simp [shL])
  (fun i s rec hi hs => by
   subst hs;left;refine ⟨(b ++ shL ps (x.Kids.take (i + 1)), ((i + 1 : Nat) : Int)), ?_, rfl⟩;have hle := UF ps x.Kids (i + 1);rw [Kd ps hi, bm] at hle;unfold Ch;dsimp only;rw [bf (by omega), bb, Av hi, ba, hrc _ (bn hi) (by omega), ba, JL (by rw [bm]; omega), ba, Kd ps hi, List.append_assoc, w64 (by omega) (by omega)]
   rfl)
  (fun s rec hs => ⟨b ++ shL ps x.Kids, by
   subst hs;unfold Ch;dsimp only
   rw [bg (by omega), bc, List.take_length], rfl⟩) (n := FUEL) (by unfold FUEL; omega)
 rw [ho, hr]
theorem Uu {ps : List (List By8)} (hp : okP ps) : ∀ (n : Nat) (x : Ab) (top : Bool), szN x < n -> (∀ y ∈ AU x, okD ps y) -> (shN ps x top).length <= 140737488355328 ->
  iter Bi n (ps, x, top) = some (shN ps x top)
 | 0, x, top, h, _, _ => by omega
 | n + 1, x, top, h, hx, hb => by
  have hpl := hp.len;have hk := EX x;have hxx := hx x (by rw [Dk]; exact List.mem_cons_self);obtain ⟨o1, o2, o3, o4, o5, o6⟩ := hxx
  have hkid : ∀ k ∈ x.Kids, ∀ y ∈ AU k, okD ps y := fun k hk y hy => hx y (by
   rw [Dk];refine List.mem_cons_of_mem _ ?_;obtain ⟨l1, l2, e⟩ := List.append_of_mem hk;rw [e, Em];simp only [Dh]
   simp [hy])
  have ih : ∀ k ∈ x.Kids, (shN ps k false).length <= 140737488355328 -> iter Bi n (ps, k, false) = some (shN ps k false) := fun k hk hb => Uu hp n k false (by have := Im hk; omega) (hkid k hk) hb;rw [DH];generalize iter Bi n = rc at ih ⊢;rw [PE] at hb ⊢;unfold Bi AJ;dsimp only;by_cases e3 : x.Kind = 3
  ·rw [if_pos e3] at hb ⊢;rw [show (x.Kind == (3 : Int)) = true by simp [e3], bb, Yp _ o5, ba]
  rw [if_neg e3] at hb ⊢;rw [show (x.Kind == (3 : Int)) = false by simp [e3], bc];by_cases e4 : x.Kind = 4
  ·rw [if_pos e4] at hb ⊢;simp only [bm, bi, bj] at hb;rw [show (x.Kind == (4 : Int)) = true by simp [e4], bb, JL (by simp only [bm, bi, bj]; omega), ba, JL (by simp only [bm, bi, bj]; omega), ba]
  rw [if_neg e4] at hb ⊢;rw [show (x.Kind == (4 : Int)) = false by simp [e4], bc];by_cases e5 : x.Kind = 5
  ·rw [if_pos e5] at hb ⊢;rw [show (x.Kind == (5 : Int)) = true by simp [e5], bb];by_cases et : x.Text = []
   ·rw [if_pos et] at hb ⊢;simp only [bm, bi, bj] at hb;rw [show (x.Text == ([] : List By8)) = true by simp [et], bb, JL (by simp only [bm, bi, bj]; omega), ba, JL (by simp only [bm, bi, bj]; omega), ba];simp
   ·rw [if_neg et] at hb ⊢;simp only [bm, bi, bj] at hb;rw [show (x.Text == ([] : List By8)) = false by simp [et], bc, JL (by simp only [bm, bi, bj]; omega), ba, JL (by simp only [bm, bi, bj]; omega), ba, JL (by simp only [bm, bi, bj]; omega), ba, JL (by simp only [bm, bi, bj]; omega), ba];simp
  rw [if_neg e5] at hb ⊢;rw [show (x.Kind == (5 : Int)) = false by simp [e5], bc];simp only [bm, bi, bj] at hb;have hpull : ∀ q : List By8 -> Option (List By8), (cond top ((iter (BN ps) FUEL (([60] : List By8) ++ nmX ps x.Name, (0 : Int))).bind fun o => q o) (q (([60] : List By8) ++ nmX ps x.Name))) = q (([60] : List By8) ++ nmX ps x.Name ++ if top then nsX ps ps.length else []) := fun q => by
   cases top with
   | true =>
    simp only [if_true] at hb ⊢;rw [bb, Aeq hp _ (by simp only [bm, bi, bj]; omega), ba]
   | false => simp
  rw [Acg ps hp.ss hp.ne (by omega) _ o1, ba, JL (by simp only [bm, bi, bj]; omega), ba];refine (hpull _).trans ?_;rw [Ady hp _ x (hx x (by rw [Dk]; exact List.mem_cons_self)) (by simp only [bm, bi, bj]; omega), ba];rw [JL (by simp only [bm, bi, bj]; omega), ba];rw [Adw _ x o4 rc (by simp only [bm, bi, bj]; omega) ih, ba];rw [JL (by simp only [bm, bi, bj]; omega), ba];rw [JL (by simp only [bm, bi, bj]; omega), ba];rw [JL (by simp only [bm, bi, bj]; omega), ba];simp only [List.append_assoc]

set_option linter.unusedSimpArgs false
set_option linter.unusedVariables false
set_option maxRecDepth 20000
theorem Sy {ps : List (List By8)} (hp : okP ps) (n : Ad) : (nmX ps n).length <= 23 + n.Local.length := by
 have hl := hp.len;have hp := IL n.URI ps;have := LP (Eb n.URI ps) (by omega);unfold nmX;split
 ·omega
 ·split <;> simp only [bm, bi, bj] <;> omega
theorem Nm {ps : List (List By8)} (hp : okP ps) : ∀ l : List Ae, (E1 ps l).length <= 60 * (List.map (fun x : Ae => ((((x.Name.URI.length + 1) + ((x.Name.Local.length + 1) + 0)) + 1) + ((x.Value.length + 1) + 0)) + 1) l).sum
 | [] => by simp [E1]
 | a :: l => by
  have h1 := Nm hp l;have h2 := Sy hp a.Name;have h3 := Ja Ms a.Value;have e : E1 ps (a :: l) = WK ps a ++ E1 ps l := by unfold E1; simp
  rw [e, bm, List.map_cons, List.sum_cons];unfold WK;simp only [bm, bi, bj];omega
mutual
theorem SA {ps : List (List By8)} (hp : okP ps) : ∀ x : Ab, (shN ps x false).length <= 60 * szN x
 | ⟨K, N, A, Ks, T⟩ => by
  have h1 := QQ hp Ks;have h2 := Nm hp A;have h3 := Sy hp N;have h4 := Ja Po T;simp only [szN, AE, shN];split
  ·omega
  split
  ·simp only [bm, bi, bj]; omega
  split
  ·split <;> simp only [bm, bi, bj] <;> omega
  ·simp only [Bool.false_eq_true, if_false, bm, bi, bj];omega
theorem QQ {ps : List (List By8)} (hp : okP ps) : ∀ l : List Ab, (shL ps l).length <= 60 * GH l
 | [] => by simp [shL]
 | k :: l => by
  have h1 := SA hp k;have h2 := QQ hp l;simp only [shL, GH, bm];have : szN k = AE k := rfl;omega
end
theorem Wy {ps : List (List By8)} (x : Ab) : (shN ps x true).length <= (shN ps x false).length + (nsX ps ps.length).length := by
 rw [PE, PE];split
 ·omega
 split
 ·omega
 split
 ·omega
 ·simp only [if_true, Bool.false_eq_true, if_false, bm, bi, bj];omega
theorem OS : ∀ (n : Nat) (x : Ab), szN x < n -> (∀ y ∈ AU x, FU y = true) -> ∀ y ∈ Dh x.Kids, y.Kind = 2 \/ y.Kind = 3 \/ y.Kind = 4 \/ y.Kind = 5
 | 0, x, h, _, _, _ => by omega
 | n + 1, x, h, hx, y, hy => by
  have hk := EX x;have hfl : ∀ (l : List Ab) (y : Ab), y ∈ Dh l -> ∃ k ∈ l, y ∈ AU k := by
   intro l
   induction l with
   | nil => intro y hy; simp [Dh] at hy
   | cons k l ih =>
    intro y hy;simp only [Dh, List.mem_append] at hy;rcases hy with hy | hy
    ·exact ⟨k, List.mem_cons_self, hy⟩
    ·obtain ⟨k', h1, h2⟩ := ih y hy;exact ⟨k', List.mem_cons_of_mem _ h1, h2⟩
  obtain ⟨k, hkm, hyk⟩ := hfl _ _ hy;have hsub : ∀ y ∈ AU k, y ∈ AU x := fun y hy => by
   rw [Dk x];refine List.mem_cons_of_mem _ ?_;obtain ⟨l1, l2, e⟩ := List.append_of_mem hkm;rw [e, Em];simp only [Dh];simp [hy]
  have hkk : k.Kind = 2 \/ k.Kind = 3 \/ k.Kind = 4 \/ k.Kind = 5 := by
   have h1 := hx x (by rw [Dk]; exact List.mem_cons_self);unfold FU at h1;have h2 := List.all_eq_true.1 (Bool.and_eq_true_iff.1 h1).1 k hkm;unfold Jv JQ at h2;simp only [Bool.or_eq_true, Bool.and_eq_true, beq_iff_eq] at h2;omega
  rw [Dk] at hyk;rcases List.mem_cons.1 hyk with e | e
  ·subst e; exact hkk
  ·exact OS n k (by have := Im hkm; omega) (fun z hz => hx z (hsub z hz)) y e
theorem Sr (s : List By8) : Mw s = true ↔ s ≠ [] := by unfold Mw; simp
theorem Ws {d y : Ab} (hy : y ∈ AU d) {u : List By8} (hu : u = y.Name.URI \/ ∃ a ∈ y.Attrs, u = a.Name.URI) (hne : u ≠ []) : u ∈ D4 d := by
 unfold D4;rw [List.mem_flatMap];refine ⟨y, hy, ?_⟩;unfold Lo;rw [List.mem_filter];refine ⟨?_, (Sr u).2 hne⟩;rcases hu with rfl | ⟨a, ha, rfl⟩
 ·simp
 ·simp only [List.mem_append, List.mem_map];exact .inr ⟨a, ha, rfl⟩
theorem O9 {d : Ab} : ∀ u ∈ D4 d, u ≠ [] /\ u.length <= szN d := by
 intro u hu;unfold D4 at hu;obtain ⟨y, hy, h⟩ := List.mem_flatMap.1 hu;unfold Lo at h;obtain ⟨h1, h2⟩ := List.mem_filter.1 h;refine ⟨(Sr u).1 h2, ?_⟩;have hz := G2 d y hy;rcases List.mem_append.1 h1 with h | h
 ·rw [List.mem_singleton] at h; subst h;exact Nat.le_trans (FR y).1 hz
 ·obtain ⟨a, ha, rfl⟩ := List.mem_map.1 h;exact Nat.le_trans (H6 ha).1 hz
theorem PX_ok (d : Ab) (hd : szN d <= 1049600) : okP (PX d) := by
 refine ⟨PX_ss d, fun h => ?_, Nat.le_trans (PX_len d) hd, fun x hx => ?_⟩
 ·exact (O9 _ ((PX_mem d _).1 h).1).1 rfl
 ·exact Nat.le_trans (O9 _ ((PX_mem d x).1 hx).1).2 hd
theorem R4 {d y : Ab} (hd : szN d <= 1049600) (hy : y ∈ AU d) {n : Ad} (hu : n.URI = y.Name.URI \/ ∃ a ∈ y.Attrs, n.URI = a.Name.URI) (hl : n.Local.length <= 1049600) (hl2 : n.URI.length <= 1049600) : Ya (PX d) n := by
 refine ⟨?_, hl, hl2⟩;by_cases e1 : n.URI = []
 ·exact .inl e1
 by_cases e2 : n.URI = JP
 ·exact .inr (.inl e2)
 ·exact .inr (.inr ((PX_mem d _).2 ⟨Ws hy hu e1, e2⟩))
theorem Vc {d : Ab} (hd : szN d <= 1049600) (hk : ∀ y ∈ AU d, FU y = true) : ∀ y ∈ Dh d.Kids, okD (PX d) y := by
 intro y hy;have hyd : y ∈ AU d := by rw [Dk]; exact List.mem_cons_of_mem _ hy
 have hz := Nat.le_trans (G2 d y hyd) hd;have hn := FR y;refine ⟨R4 hd hyd (.inl rfl) (by omega) (by omega), fun a ha => ?_, Nat.le_trans (Dg y) hz, Nat.le_trans (CA y) hz, by omega, OS (szN d + 1) d (by omega) hk y hy⟩;have := H6 ha;exact ⟨R4 hd hyd (.inr ⟨a, ha, rfl⟩) (by omega) (by omega), by omega⟩
def HI (ps : List (List By8)) (l : List Ab) : List By8 := l.flatMap fun k => shN ps k true ++ [10]
theorem OQ {ps : List (List By8)} {l : List Ab} {i : Nat} (h : i < l.length) : HI ps (l.take (i + 1)) = HI ps (l.take i) ++ (shN ps l[i] true ++ [10]) := by unfold HI; rw [Gc h, List.flatMap_append]; simp
def wrX (t : List By8) : List By8 × Int := if 65536 < t.length then ([], 6) else (t, 0)
theorem RR {ps : List (List By8)} (hp : okP ps) : ∀ l : List Ab, (HI ps l).length <= 60 * GH l + l.length * (1 + (nsX ps ps.length).length)
 | [] => by simp [HI]
 | k :: l => by
  have h1 := RR hp l;have h2 := Wy (ps := ps) k;have h3 := SA hp k;have e : HI ps (k :: l) = shN ps k true ++ [10] ++ HI ps l := by unfold HI; simp
  have e2 : GH (k :: l) = szN k + GH l := rfl;rw [e, e2];simp only [bm, bi, bj, Nat.add_mul, Nat.one_mul];omega

set_option linter.unusedSimpArgs false
set_option linter.unusedVariables false
set_option maxRecDepth 20000
def lnS (l : List (List By8)) : Nat := (l.map List.length).sum
theorem LQ (l m : List (List By8)) : lnS (l ++ m) = lnS l + lnS m := by unfold lnS; simp
theorem FB (x : List By8) (l : List (List By8)) : lnS (x :: l) = x.length + lnS l := by unfold lnS; simp
theorem Og {l m : List (List By8)} (h : l.Sublist m) : lnS l <= lnS m := by
 induction h with
 | slnil => exact Nat.le_refl _
 | cons a _ ih => rw [FB]; omega
 | cons_cons a _ ih => rw [FB, FB]; omega
theorem T0 {l m : List (List By8)} (h : l.Perm m) : lnS l = lnS m := by
 induction h with
 | nil => rfl
 | cons a _ ih => rw [FB, FB, ih]
 | swap a b l => simp only [FB]; omega
 | trans _ _ h1 h2 => exact h1.trans h2
theorem NY (l : List (List By8)) : (Lib.compact l).Sublist l := by
 have h : (Lib.compact l).Sublist ((List.range l.length).map fun j => l.toArray[j]!) := by
  unfold Lib.compact Lib.compactUpTo;exact (List.filter_sublist).map _
 have e : ((List.range l.length).map fun j => l.toArray[j]!) = l := by
  refine List.ext_getElem (by simp) fun i h1 h2 => ?_;simp only [List.getElem_map, List.getElem_range];rw [getElem!_pos _ i (by simpa using h2)]; simp
 rwa [e] at h
theorem RI (l : List Ae) : lnS (l.map fun a => a.Name.URI) <= (List.map (fun x : Ae => ((((x.Name.URI.length + 1) + ((x.Name.Local.length + 1) + 0)) + 1) + ((x.Value.length + 1) + 0)) + 1) l).sum := by
 induction l with
 | nil => simp [lnS]
 | cons a l ih => rw [List.map_cons, FB, List.map_cons, List.sum_cons]; omega
mutual
theorem Nr : ∀ x : Ab, lnS (D4 x) <= szN x
 | ⟨K, N, A, Kids, T⟩ => by
  have h1 := Nk Kids;have h2 := RI A;have h3 : lnS (Lo ⟨K, N, A, Kids, T⟩) <= lnS ([N.URI] ++ A.map fun a => a.Name.URI) := Og (List.filter_sublist);rw [LQ, FB] at h3;rw [Mg, LQ];simp only [szN, AE];have h0 : lnS ([] : List (List By8)) = 0 := rfl;omega
theorem Nk : ∀ l : List Ab, lnS (Hy l) <= GH l
 | [] => by simp [Hy, Dh, lnS]
 | k :: l => by
  have h1 := Nr k;have h2 := Nk l;have e : Hy (k :: l) = D4 k ++ Hy l := by unfold Hy D4; simp only [Dh, List.flatMap_append]
  rw [e, LQ];simp only [GH];have : szN k = AE k := rfl;omega
end
theorem PX_sum (d : Ab) : lnS (PX d) <= szN d := by
 have h1 := Og (List.filter_sublist (p := fun x => !(x == JP)) (l := Lib.compact (He (D4 d))));have h2 := Og (NY (He (D4 d)));have h3 : lnS (He (D4 d)) = lnS (D4 d) := T0 (List.mergeSort_perm _ _);have h4 := Nr d;have h5 : lnS (PX d) <= lnS (Lib.compact (He (D4 d))) := h1;omega
theorem O8 {ps : List (List By8)} (hp : okP ps) : ∀ k, k <= ps.length -> (nsX ps k).length <= 32 * k + 6 * lnS (ps.take k)
 | 0, _ => by simp [nsX]
 | k + 1, hk => by
  have hl := hp.len;have hk' : k < ps.length := by omega
  have h1 := O8 hp k (by omega);have h2 := LP k (by omega);have h3 := Ja Ms (ps.getD k []);have e : ps.getD k [] = ps[k] := by rw [List.getD_eq_getElem?_getD, List.getElem?_eq_getElem hk']; rfl
  have h0 : lnS ([] : List (List By8)) = 0 := rfl;rw [Ip, bm, Gc hk', LQ, FB, h0];unfold Oo;rw [e] at h3 ⊢;simp only [bm, bi, bj];omega
theorem QW (d : Ab) (hd : szN d <= 1049600) : (HI (PX d) d.Kids).length <= 100000000000000 := by
 have hp := PX_ok d hd;have h1 := RR hp d.Kids;have h2 := O8 hp (PX d).length (Nat.le_refl _);rw [List.take_length] at h2;have h3 := PX_sum d;have h4 := PX_len d;have h5 := CA d;have h6 := EX d;have h7 : d.Kids.length * (1 + (nsX (PX d) (PX d).length).length) <= 1049600 * 40000000 := Nat.mul_le_mul (by omega) (by omega);omega
theorem Uv (ps : List (List By8)) (l : List Ab) (i : Nat) : (HI ps (l.take i)).length <= (HI ps l).length := by
 have e := congrArg (fun l => (HI ps l).length) (List.take_append_drop i l);unfold HI at e ⊢;simp only [List.flatMap_append, bm] at e;omega
theorem XN {d k : Ab} (hk : k ∈ d.Kids) {y : Ab} (hy : y ∈ AU k) : y ∈ Dh d.Kids := by
 obtain ⟨l1, l2, e⟩ := List.append_of_mem hk;rw [e, Em];simp only [Dh];simp [hy]
theorem Ad0 (d : Ab) (hd : szN d <= 1049600) (hk : ∀ y ∈ AU d, FU y = true) : iter (DD d (PX d)) FUEL ([], (0 : Int)) = some (HI (PX d) d.Kids) := by
 have hp := PX_ok d hd;have hD := Vc hd hk;have hb := QW d hd;have hkl := CA d;obtain ⟨o, ho, hr⟩ := AC (b := DD d (PX d)) (fun i s => s = (HI (PX d) (d.Kids.take i), (i : Int))) (fun o => o = HI (PX d) d.Kids) d.Kids.length (x0 := ([], (0 : Int))) (by simp [HI])
  (fun i s rec hi hs => by
   subst hs;left;refine ⟨(HI (PX d) (d.Kids.take (i + 1)), ((i + 1 : Nat) : Int)), ?_, rfl⟩;have hle := Uv (PX d) d.Kids (i + 1);rw [OQ hi] at hle ⊢;simp only [bm, bi, bj] at hle;have hm := bn hi;have hn : Dy ⟨⟨(), HI (PX d) (d.Kids.take i)⟩, PX d⟩ d.Kids[i] true = some (HI (PX d) (d.Kids.take i) ++ shN (PX d) d.Kids[i] true) :=
    UP hp FUEL _ _ true (by have := HV hm; unfold FUEL; omega) (fun y hy => hD y (XN hm hy)) (by omega)
   unfold DD;dsimp only;rw [bf (by omega), bb, Av hi, ba, hn, ba, Kc (by rw [bm]; omega), ba, ba, w64 (by omega) (by omega), List.append_assoc]
   rfl)
  (fun s rec hs => ⟨HI (PX d) d.Kids, by
   subst hs;unfold DD;dsimp only
   rw [bg (by omega), bc, List.take_length], rfl⟩) (n := FUEL) (by unfold FUEL; omega)
 rw [ho, hr]
theorem Adm (d : Ab) (hd : szN d <= 1049600) (hk : ∀ y ∈ AU d, FU y = true) : iter (B4 d (PX d)) FUEL ([], (0 : Int)) = some (HI (PX d) d.Kids) := by
 have hp := PX_ok d hd;have hD := Vc hd hk;have hb := QW d hd;have hkl := CA d;obtain ⟨o, ho, hr⟩ := AC (b := B4 d (PX d)) (fun i s => s = (HI (PX d) (d.Kids.take i), (i : Int))) (fun o => o = HI (PX d) d.Kids) d.Kids.length (x0 := ([], (0 : Int))) (by simp [HI])
  (fun i s rec hi hs => by
   subst hs;left;refine ⟨(HI (PX d) (d.Kids.take (i + 1)), ((i + 1 : Nat) : Int)), ?_, rfl⟩;have hle := Uv (PX d) d.Kids (i + 1);rw [OQ hi] at hle ⊢;simp only [bm, bi, bj] at hle;have hm := bn hi;have hn : Dx (PX d) d.Kids[i] true = some (shN (PX d) d.Kids[i] true) :=
    Uu hp FUEL _ true (by have := HV hm; unfold FUEL; omega) (fun y hy => hD y (XN hm hy)) (by omega)
   unfold B4;dsimp only;rw [bf (by omega), bb, Av hi, ba, hn, ba, JL (by omega), ba, JL (by simp only [bm, bi, bj]; omega), ba, w64 (by omega) (by omega), List.append_assoc]
   rfl)
  (fun s rec hs => ⟨HI (PX d) d.Kids, by
   subst hs;unfold B4;dsimp only
   rw [bg (by omega), bc, List.take_length], rfl⟩) (n := FUEL) (by unfold FUEL; omega)
 rw [ho, hr]
theorem Vx {d : Ab} (hd : szN d <= 1049600) (h : Cc d = some 0) : (∀ y ∈ AU d, FU y = true) /\ d.Kids ≠ [] := by
 by_cases h1 : d.Kind = 1
 ·obtain ⟨r, e1, e2⟩ := QV hd h1;have e3 := Q1 hd h1 e1;rw [h] at e3;injection e3 with e3
  unfold YS at e3;have ha : (AU d).all FU = true := by
   cases ha : (AU d).all FU with
   | true => rfl
   | false => rw [if_pos ha] at e3; omega
  have hr1 : r = 1 := by
   (repeat' split at e3) <;> first | omega | (rename_i hr; exact Classical.byContradiction hr) | skip
  refine ⟨fun y hy => List.all_eq_true.1 ha y hy, fun hk => ?_⟩;have : iter (A7 d) FUEL ((0 : Int), (0 : Int)) = some 0 := by
   obtain ⟨m, hm⟩ : ∃ m, FUEL = m + 1 := ⟨FUEL - 1, by unfold FUEL; rfl⟩
   rw [hm, DH];unfold A7;dsimp only;rw [hk, bg (by simp), bc]
  rw [this] at e1;injection e1 with e1
  omega
 ·exfalso;unfold Cc at h;rw [Me d hd, show (d.Kind != (1 : Int)) = true by simpa using h1] at h;simp only [ba, AJ, bb] at h;cases h
theorem Yx {ps : List (List By8)} {l : List Ab} (h : l ≠ []) : HI ps l ≠ [] := by
 cases l with
 | nil => exact absurd rfl h
 | cons k l => intro e; unfold HI at e; simp at e
theorem Q3 (d : Ab) (hd : szN d <= 1049600) : ∃ r, Dm d = some r /\ B7 d = some r /\ r.1.length <= 65536 /\ ∃ c, Cc d = some c /\ (c = 0 -> r = wrX (HI (PX d) d.Kids)) /\ (c ≠ 0 -> r = ([], c)) := by
 obtain ⟨c, hc, _⟩ := Qc d hd;have hc2 := So d hd;rw [hc] at hc2;unfold Dm B7 AJ;dsimp only;rw [hc, hc2, ba, ba];by_cases h0 : c = 0
 ·subst h0;obtain ⟨hk, hne⟩ := Vx hd hc;have hb := QW d hd;rw [show ((0 : Int) != (0 : Int)) = false by rfl, bc, bc, LB d hd, Lr d hd, ba, ba, Ad0 d hd hk, Adm d hd hk, ba, ba];refine ⟨wrX (HI (PX d) d.Kids), ?_, ?_, ?_, 0, rfl, fun _ => rfl, fun h => absurd rfl h⟩
  ·unfold wrX;by_cases hl : 65536 < (HI (PX d) d.Kids).length
   ·rw [bf (by omega), bb, if_pos hl]
   ·rw [bg (by omega), bc, if_neg hl];have : gdN (HI (PX d) d.Kids) = some () := by
     unfold gdN
     cases ht : HI (PX d) d.Kids with
     | nil => exact absurd ht (Yx hne)
     | cons a l => rfl
    rw [this, ba]
  ·unfold wrX;by_cases hl : 65536 < (HI (PX d) d.Kids).length
   ·rw [bf (by omega), bb, if_pos hl]
   ·rw [bg (by omega), bc, if_neg hl]
  ·unfold wrX;split
   ·simp
   ·simp only; omega
 ·rw [show (c != (0 : Int)) = true by simpa using h0, bb, bb];exact ⟨_, rfl, rfl, by simp, c, rfl, fun h => absurd h h0, fun _ => rfl⟩
end Go.Proofs.YtjofelloaofooaaGreatDoor
