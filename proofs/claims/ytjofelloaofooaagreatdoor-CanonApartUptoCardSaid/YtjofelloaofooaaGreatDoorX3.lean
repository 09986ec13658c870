/- Canon: names, on both sides. No condition. -/
import Derived.Test.YtjofelloaofooaaGreatDoorX2
set_option linter.unusedSimpArgs false
set_option linter.unusedVariables false
set_option maxRecDepth 20000
namespace Go.Proofs.YtjofelloaofooaaGreatDoor
theorem Xy (a b : List By8) : Df a b = some (decide (Ev a b < 0)) := by
 unfold Df Br AA;simp only [ba, beq_self_eq_true, Bool.not_true, bc, Bool.false_or];rw [IJ]
theorem Wc (a b : Nat) (ha : a <= 4194304) (hb : b <= 4194304) : IntKind.wrap .i64 (SB .u64 (IntKind.wrap .u64 (IntKind.wrap .i64 ((a : Int) + (b : Int)))) (1 : Int)) = (((a + b) / 2 : Nat) : Int) := by
 have h0 : IntKind.wrap .i64 ((a : Int) + (b : Int)) = (a : Int) + (b : Int) := w64 (by omega) (by omega);have h1 : IntKind.wrap .u64 ((a : Int) + (b : Int)) = ((a + b : Nat) : Int) := by
  simp [IntKind.wrap, IntKind.bits, IntKind.signed];omega
 have h2 : SB .u64 ((a + b : Nat) : Int) (1 : Int) = (((a + b) / 2 : Nat) : Int) := by
  unfold SB;rw [show (1 : Int).toNat = 1 from rfl, show min 1 (IntKind.bits .u64) = 1 from rfl, show ((2 : Int) ^ 1) = 2 from rfl, Int.fdiv_eq_ediv_of_nonneg _ (by omega)];omega
 rw [h0, h1, h2, w64 (by omega) (by omega)]
theorem QV {ps : List (List By8)} (hs : SS ps) {u : List By8} {i : Nat} (hi : i < ps.length) : Ev ps[i] u < 0 ↔ i < DA u ps := by
 constructor
 ·intro h;rcases Nat.lt_or_ge i (DA u ps) with h' | h'
  ·exact h'
  ·have hp : DA u ps < ps.length := by omega
   have h2 := Ku u ps hp;exfalso;apply h2;by_cases e : DA u ps = i
   ·simpa only [e] using h
   ·have h3 := List.pairwise_iff_getElem.1 hs (DA u ps) i hp hi (by omega);exact V4 h3 (by omega)
 ·exact Jk u ps i hi
theorem Oj (ps : List (List By8)) (hs : SS ps) (u : List By8) (hl : ps.length <= 2097152) : iter (Ay ps u) FUEL ((0 : Int), (ps.length : Int)) = some (DA u ps : Int) := by
 have hpl := Hw u ps;obtain ⟨o, ho, hr⟩ := AB (b := Ay ps u)
  (fun i s => ∃ a b : Nat, s = ((a : Int), (b : Int)) /\ a <= DA u ps /\ DA u ps <= b /\ b <= ps.length /\ (b - a) + i <= ps.length) (fun o => o = (DA u ps : Int)) ps.length (x0 := ((0 : Int), (ps.length : Int))) ⟨0, ps.length, rfl, by omega, hpl, by omega, by omega⟩
  (fun i s rec hi ⟨a, b, hs0, h1, h2, h3, h4⟩ => by
   subst hs0;unfold Ay;dsimp only;by_cases hab : a < b
   ·left;have hm : (a + b) / 2 < ps.length := by omega
    rw [bf (by omega), bb, Wc a b (by omega) (by omega), Aq hm, ba, Xy, ba];by_cases hc : Ev ps[(a + b) / 2] u < 0
    ·have hlt := (QV hs hm).1 hc;refine ⟨((((a + b) / 2 + 1 : Nat) : Int), (b : Int)), ?_, (a + b) / 2 + 1, b, rfl, by omega, h2, h3, by omega⟩;rw [bf hc, bb, w64 (by omega) (by omega)];rfl
    ·have hge : ¬ (a + b) / 2 < DA u ps := fun h => hc ((QV hs hm).2 h);refine ⟨((a : Int), (((a + b) / 2 : Nat) : Int)), ?_, a, (a + b) / 2, rfl, h1, by omega, by omega, by omega⟩;rw [bg hc, bc]
   ·right;refine ⟨(a : Int), ?_, by omega⟩
    rw [bg (by omega), bc])
  (fun s rec ⟨a, b, hs0, h1, h2, h3, h4⟩ => ⟨(a : Int), by
   subst hs0;unfold Ay;dsimp only
   rw [bg (by omega), bc], by omega⟩) (n := FUEL) (by unfold FUEL; omega)
 rw [ho, hr]
theorem N9 {ps : List (List By8)} (hs : SS ps) {u : List By8} (hu : u ∈ ps) : ∃ h : DA u ps < ps.length, ps[DA u ps] = u := by
 obtain ⟨i, hi, e⟩ := List.mem_iff_getElem.1 hu;have h0 : ¬ i < DA u ps := fun h => by
  have := Jk u ps i hi h;rw [e, Dc.refl] at this;omega
 have hp : DA u ps < ps.length := by omega
 refine ⟨hp, ?_⟩;by_cases e2 : DA u ps = i
 ·simpa only [e2] using e
 ·have h3 := List.pairwise_iff_getElem.1 hs (DA u ps) i hp hi (by omega);rw [e] at h3;exact absurd h3 (Ku u ps hp)
theorem U9 (ps : List (List By8)) (hs : SS ps) (u : List By8) (hu : u ∈ ps) (hl : ps.length <= 2097152) : AY ps u = some ((DA u ps : Int), true) := by
 obtain ⟨hp, e⟩ := N9 hs hu;unfold AY AA;dsimp only;rw [Oj ps hs u hl, ba, bf (by omega), bb, Aq hp, ba, e, beq_self_eq_true, bb]
def JM (i : Nat) : List By8 := [110] ++ Lib.decDigits (i + 1)
def nmX (ps : List (List By8)) (n : Ad) : List By8 :=
 if n.URI = [] then n.Local else if n.URI = HD then [120, 109, 108, 58] ++ n.Local else JM (DA n.URI ps) ++ [58] ++ n.Local
theorem K5 (i : Nat) (h : i <= 2097151) : (JM i).length <= 22 := by
 have := R3 (i + 1) (by omega);unfold JM;simp only [bm, bi, bj];omega
theorem NF (i : Nat) (h : i <= 2097151) : Dz (i : Int) = some (JM i) := by
 have hd := R3 (i + 1) (by omega);have e : L_Itoa (IntKind.wrap .i64 ((i : Int) + 1)) = some (Lib.decDigits (i + 1)) := by
  rw [w64 (by omega) (by omega)];unfold L_Itoa;rw [if_pos (by omega)];have := Lib.itoa_nonneg (i + 1);rw [show ((i : Int) + 1) = ((i + 1 : Nat) : Int) by omega, this]
 unfold Dz;rw [e, ba, EP (by simp only [bi, bj]; omega), ba];rfl
def We (ps : List (List By8)) (n : Ad) : Prop := (n.URI = [] \/ n.URI = HD \/ n.URI ∈ ps) /\ n.Local.length <= 1049600 /\ n.URI.length <= 1049600
theorem Tl (b : List By8) (ps : List (List By8)) (hs : SS ps) (hl : ps.length <= 2097151) (n : Ad) (hn : We ps n) : B2 ⟨⟨(), b⟩, ps⟩ n = some (nmX ps n) := by
 obtain ⟨h1, h2, _⟩ := hn;unfold B2 nmX;by_cases e1 : n.URI = []
 ·rw [if_pos e1, show (n.URI == ([] : List By8)) = true by simp [e1], bb]
 ·rw [if_neg e1, show (n.URI == ([] : List By8)) = false by simp [e1], bc];by_cases e2 : n.URI = HD
  ·rw [if_pos e2];have e3 : (n.URI == HD) = true := by simp [e2]
   unfold HD at e3;rw [e3, bb, EP (by simp only [bi, bj]; omega), ba]
  ·rw [if_neg e2];have e3 : (n.URI == HD) = false := by simp [e2]
   unfold HD at e3;have hu : n.URI ∈ ps := by rcases h1 with h | h | h <;> first | exact absurd h e1 | exact absurd h e2 | exact h
   have hp := Hw n.URI ps;have hx := K5 (DA n.URI ps) (by omega);rw [e3, bc, U9 ps hs _ hu (by omega), ba];dsimp only;rw [NF _ (by omega), ba, EP (by simp only [bi, bj]; omega), ba, EP (by simp only [bm, bi, bj]; omega), ba]
theorem Z2 (ps : List (List By8)) (hs : SS ps) (h0 : [] ∉ ps) (hl : ps.length <= 2097151) (n : Ad) (hn : We ps n) : CQ ps n = some (nmX ps n) := by
 obtain ⟨h1, h2, _⟩ := hn;unfold CQ nmX AA;by_cases e2 : n.URI = HD
 ·have e3 : (n.URI == HD) = true := by simp [e2]
  have e1 : n.URI ≠ [] := by rw [e2]; decide
  unfold HD at e3;rw [if_neg e1, if_pos e2, e3, bb, EP (by simp only [bi, bj]; omega), ba]
 ·have e3 : (n.URI == HD) = false := by simp [e2]
  unfold HD at e3;rw [e3, bc];dsimp only;by_cases e1 : n.URI = []
  ·rw [if_pos e1];obtain ⟨o, ho, hr⟩ := AB (b := A4 ps n) (fun i s => s = (i : Int)) (fun o => o = .inl ()) ps.length (x0 := (0 : Int)) rfl
    (fun i s rec hi hs => by
     subst hs;left;refine ⟨((i + 1 : Nat) : Int), ?_, rfl⟩;have hne : ps[i] ≠ [] := fun e => h0 (e ▸ bn hi);unfold A4;rw [bf (by omega), bb, Aq hi, ba, e1, show (ps[i] == ([] : List By8)) = false by simp [hne], bc, w64 (by omega) (by omega)]
     rfl)
    (fun s rec hs => ⟨.inl (), by
     subst hs;unfold A4
     rw [bg (by omega), bc], rfl⟩) (n := FUEL) (by unfold FUEL; omega)
   rw [ho, ba, hr]
  ·rw [if_neg e1, if_neg e2];have hu : n.URI ∈ ps := by rcases h1 with h | h | h <;> first | exact absurd h e1 | exact absurd h e2 | exact h
   obtain ⟨hp, hat⟩ := N9 hs hu;have hd := R3 (DA n.URI ps + 1) (by omega);obtain ⟨o, ho, hr⟩ := AB (b := A4 ps n) (fun i s => s = (i : Int) /\ i <= DA n.URI ps) (fun o => o = .inr (JM (DA n.URI ps) ++ [58] ++ n.Local)) (DA n.URI ps) (x0 := (0 : Int)) ⟨rfl, by omega⟩
    (fun i s rec hi ⟨hs0, _⟩ => by
     subst hs0;left;refine ⟨((i + 1 : Nat) : Int), ?_, rfl, by omega⟩;have hlt : i < ps.length := by omega
     have hne : ps[i] ≠ n.URI := T5 (Jk n.URI ps i hlt hi);unfold A4;rw [bf (by omega), bb, Aq hlt, ba, show (ps[i] == n.URI) = false by simp [hne], bc, w64 (by omega) (by omega)]
     rfl)
    (fun s rec ⟨hs0, _⟩ => ⟨.inr (JM (DA n.URI ps) ++ [58] ++ n.Local), by
     subst hs0;unfold A4;rw [bf (by omega), bb, Aq hp, ba, hat, beq_self_eq_true, bb, w64 (by omega) (by omega)];have e := WN (DA n.URI ps + 1) (by omega) (by omega);rw [show ((DA n.URI ps : Int) + 1) = ((DA n.URI ps + 1 : Nat) : Int) by omega, e, ba, EP (by simp only [bi, bj]; omega), ba, EP (by simp only [bm, bi, bj]; omega), ba, EP (by simp only [bm, bi, bj]; omega), ba]
     rfl, rfl⟩) (n := FUEL) (by unfold FUEL; omega)
   rw [ho, ba, hr]

set_option linter.unusedSimpArgs false
set_option linter.unusedVariables false
set_option maxRecDepth 20000
def KU (ps : List (List By8)) (i : Nat) : List By8 := [32, 120, 109, 108, 110, 115, 58] ++ JM i ++ [61, 34] ++ (ps.getD i []).flatMap escQ ++ [34]
def nsX (ps : List (List By8)) (k : Nat) : List By8 := (List.range k).flatMap (KU ps)
def Tv (ps : List (List By8)) (a : Ae) : List By8 := [32] ++ nmX ps a.Name ++ [61, 34] ++ a.Value.flatMap escQ ++ [34]
def Dv (ps : List (List By8)) (l : List Ae) : List By8 := l.flatMap (Tv ps)
mutual
def shN (ps : List (List By8)) : Aa -> Bool -> List By8
 | ⟨K, N, A, Ks, T⟩, top =>
  if K = 3 then T.flatMap escT
  else if K = 4 then [60, 33, 45, 45] ++ T ++ [45, 45, 62]
  else if K = 5 then [60, 63] ++ N.Local ++ (if T = [] then [] else [32] ++ T) ++ [63, 62]
  else [60] ++ nmX ps N ++ (if top then nsX ps ps.length else []) ++ Dv ps A ++ [62] ++ shL ps Ks ++ ([60, 47] ++ nmX ps N ++ [62])
def shL (ps : List (List By8)) : List Aa -> List By8
 | [] => []
 | k :: l => shN ps k false ++ shL ps l
end
theorem Ik (ps : List (List By8)) (x : Aa) (top : Bool) : shN ps x top =
  if x.Kind = 3 then x.Text.flatMap escT
  else if x.Kind = 4 then [60, 33, 45, 45] ++ x.Text ++ [45, 45, 62]
  else if x.Kind = 5 then [60, 63] ++ x.Name.Local ++ (if x.Text = [] then [] else [32] ++ x.Text) ++ [63, 62]
  else [60] ++ nmX ps x.Name ++ (if top then nsX ps ps.length else []) ++ Dv ps x.Attrs ++ [62] ++ shL ps x.Kids ++ ([60, 47] ++ nmX ps x.Name ++ [62]) := by cases x; simp only [shN]
theorem My (ps : List (List By8)) : ∀ l m : List Aa, shL ps (l ++ m) = shL ps l ++ shL ps m
 | [], m => by simp [shL]
 | k :: l, m => by simp [shL, My ps l m]
theorem II (ps : List (List By8)) {l : List Aa} {i : Nat} (h : i < l.length) : shL ps (l.take (i + 1)) = shL ps (l.take i) ++ shN ps l[i] false := by
 rw [Gb h, My]; simp [shL]
theorem Sv (ps : List (List By8)) (l : List Aa) (i : Nat) : (shL ps (l.take i)).length <= (shL ps l).length := by
 have e := congrArg (fun l => (shL ps l).length) (List.take_append_drop i l);simp only [My, bm] at e;omega
theorem GY (ps : List (List By8)) (k : Nat) : nsX ps (k + 1) = nsX ps k ++ KU ps k := by unfold nsX; rw [List.range_succ, List.flatMap_append]; simp
theorem PR (ps : List (List By8)) : ∀ (n k : Nat), (nsX ps k).length <= (nsX ps (k + n)).length
 | 0, k => Nat.le_refl _
 | n + 1, k => by have := PR ps n k; rw [<- Nat.add_assoc, GY, bm]; omega
theorem GW (ps : List (List By8)) {l : List Ae} {i : Nat} (h : i < l.length) : Dv ps (l.take (i + 1)) = Dv ps (l.take i) ++ Tv ps l[i] := by unfold Dv; rw [Gb h, List.flatMap_append]; simp
theorem NL (ps : List (List By8)) (l : List Ae) (i : Nat) : (Dv ps (l.take i)).length <= (Dv ps l).length := by
 have e := congrArg (fun l => (Dv ps l).length) (List.take_append_drop i l);unfold Dv at e ⊢;simp only [List.flatMap_append, bm] at e;omega
structure okP (ps : List (List By8)) : Prop where
 ss : SS ps
 ne : [] ∉ ps
 len : ps.length <= 1049600
 each : ∀ x ∈ ps, x.length <= 1049600
def okD (ps : List (List By8)) (x : Aa) : Prop := We ps x.Name /\ (∀ a ∈ x.Attrs, We ps a.Name /\ a.Value.length <= 1049600) /\ x.Attrs.length <= 1049600 /\ x.Kids.length <= 1049600 /\ x.Text.length <= 1049600 /\ (x.Kind = 2 \/ x.Kind = 3 \/ x.Kind = 4 \/ x.Kind = 5)
theorem Ql (b : List By8) (ps L : List (List By8)) (hL : L.length <= 1000) (h : b.length + L.flatten.length <= 140737488355328) : Au ⟨⟨(), b⟩, ps⟩ L = some (b ++ L.flatten) := Uo ⟨⟨(), b⟩, ps⟩ L hL h
theorem Acd {ps : List (List By8)} (hp : okP ps) (b0 b : List By8) (top : Bool) (h : b.length + (if top then nsX ps ps.length else []).length <= 140737488355328) :
  iter (Be ⟨⟨(), b0⟩, ps⟩ top) FUEL (b, (0 : Int)) = some (b ++ if top then nsX ps ps.length else []) := by
 have hpl := hp.len;obtain ⟨o, ho, hr⟩ := AB (b := Be ⟨⟨(), b0⟩, ps⟩ top) (fun i s => s = (b ++ (if top then nsX ps i else []), (i : Int))) (fun o => o = b ++ if top then nsX ps ps.length else []) ps.length (x0 := (b, (0 : Int))) (by cases top <;> simp [nsX])
  (fun i s rec hi hs => by
   subst hs;left;refine ⟨(b ++ (if top then nsX ps (i + 1) else []), ((i + 1 : Nat) : Int)), ?_, rfl⟩;unfold Be AA;dsimp only;rw [bf (by omega), bb, Aq hi, ba, w64 (by omega) (by omega)]
   cases top with
   | true =>
    have he := hp.each _ (bn hi);have hle := PR ps (ps.length - (i + 1)) (i + 1);rw [show i + 1 + (ps.length - (i + 1)) = ps.length by omega, GY, bm] at hle;have hone : KU ps i = ([([32, 120, 109, 108, 110, 115, 58] : List By8), JM i, ([61, 34] : List By8), ps[i].flatMap escQ, ([34] : List By8)] : List (List By8)).flatten := by
     unfold KU;rw [List.getD_eq_getElem?_getD, List.getElem?_eq_getElem hi];simp
    simp only [if_true] at h ⊢;rw [bb, NF i (by omega), ba, PO _ he, ba, Ql _ _ _ (by simp) (by rw [<- hone, bm]; omega), ba, <- hone, GY, List.append_assoc];rfl
   | false =>
    simp only [Bool.false_eq_true, if_false];rw [bc]
    rfl)
  (fun s rec hs => ⟨b ++ if top then nsX ps ps.length else [], by
   subst hs;unfold Be;dsimp only
   rw [bg (by omega), bc], rfl⟩) (n := FUEL) (by unfold FUEL; omega)
 rw [ho, hr]
theorem Abl {ps : List (List By8)} (hp : okP ps) (b0 b : List By8) (x : Aa) (hx : okD ps x) (h : b.length + (Dv ps x.Attrs).length <= 140737488355328) :
  iter (Bd ⟨⟨(), b0⟩, ps⟩ x) FUEL (b, (0 : Int)) = some (b ++ Dv ps x.Attrs) := by
 obtain ⟨_, ha, hal, _⟩ := hx;have hpl := hp.len;obtain ⟨o, ho, hr⟩ := AB (b := Bd ⟨⟨(), b0⟩, ps⟩ x) (fun i s => s = (b ++ Dv ps (x.Attrs.take i), (i : Int))) (fun o => o = b ++ Dv ps x.Attrs) x.Attrs.length (x0 := (b, (0 : Int))) (by simp [Dv])
  (fun i s rec hi hs => by
   subst hs;left;refine ⟨(b ++ Dv ps (x.Attrs.take (i + 1)), ((i + 1 : Nat) : Int)), ?_, rfl⟩;obtain ⟨h1, h2⟩ := ha _ (bn hi);have hle := NL ps x.Attrs (i + 1);rw [GW ps hi, bm] at hle;have hone : Tv ps x.Attrs[i] = ([([32] : List By8), nmX ps x.Attrs[i].Name, ([61, 34] : List By8), x.Attrs[i].Value.flatMap escQ, ([34] : List By8)] : List (List By8)).flatten := by
    unfold Tv;simp
   unfold Bd;dsimp only;rw [bf (by omega), bb, Aq hi, ba, Tl _ ps hp.ss (by omega) _ h1, ba, PO _ h2, ba, Ql _ _ _ (by simp) (by rw [<- hone, bm]; omega), ba, <- hone, GW ps hi, List.append_assoc, w64 (by omega) (by omega)]
   rfl)
  (fun s rec hs => ⟨b ++ Dv ps x.Attrs, by
   subst hs;unfold Bd;dsimp only
   rw [bg (by omega), bc, List.take_length], rfl⟩) (n := FUEL) (by unfold FUEL; omega)
 rw [ho, hr]
theorem Ack {ps : List (List By8)} (b0 b : List By8) (x : Aa) (hx : x.Kids.length <= 1049600) (rc : Ah × Aa × Bool -> Option (List By8))
  (h : b.length + (shL ps x.Kids).length <= 140737488355328) (hrc : ∀ k ∈ x.Kids, ∀ b : List By8, b.length + (shN ps k false).length <= 140737488355328 -> rc (⟨⟨(), b⟩, ps⟩, k, false) = some (b ++ shN ps k false)) :
  iter (Bc ⟨⟨(), b0⟩, ps⟩ x rc) FUEL (b, (0 : Int)) = some (b ++ shL ps x.Kids) := by
 obtain ⟨o, ho, hr⟩ := AB (b := Bc ⟨⟨(), b0⟩, ps⟩ x rc) (fun i s => s = (b ++ shL ps (x.Kids.take i), (i : Int))) (fun o => o = b ++ shL ps x.Kids) x.Kids.length (x0 := (b, (0 : Int))) (by simp [shL])
  (fun i s rec hi hs => by
   subst hs;left;refine ⟨(b ++ shL ps (x.Kids.take (i + 1)), ((i + 1 : Nat) : Int)), ?_, rfl⟩;have hle := Sv ps x.Kids (i + 1);rw [II ps hi, bm] at hle;unfold Bc;dsimp only;rw [bf (by omega), bb, Aq hi, ba, hrc _ (bn hi) _ (by rw [bm]; omega), ba, II ps hi, List.append_assoc, w64 (by omega) (by omega)]
   rfl)
  (fun s rec hs => ⟨b ++ shL ps x.Kids, by
   subst hs;unfold Bc;dsimp only
   rw [bg (by omega), bc, List.take_length], rfl⟩) (n := FUEL) (by unfold FUEL; omega)
 rw [ho, hr]
theorem Th {ps : List (List By8)} (hp : okP ps) : ∀ (n : Nat) (x : Aa) (b : List By8) (top : Bool), szN x < n -> (∀ y ∈ AE x, okD ps y) -> b.length + (shN ps x top).length <= 140737488355328 ->
  iter AD n (⟨⟨(), b⟩, ps⟩, x, top) = some (b ++ shN ps x top)
 | 0, x, b, top, h, _, _ => by omega
 | n + 1, x, b, top, h, hx, hb => by
  have hpl := hp.len;have hk := D9 x;obtain ⟨o1, o2, o3, o4, o5, o6⟩ := hx x (by rw [Bn]; exact List.mem_cons_self)
  have hkid : ∀ k ∈ x.Kids, ∀ y ∈ AE k, okD ps y := fun k hk y hy => hx y (by
   rw [Bn];refine List.mem_cons_of_mem _ ?_;obtain ⟨l1, l2, e⟩ := List.append_of_mem hk;rw [e, DP];simp only [BJ]
   simp [hy])
  have ih : ∀ k ∈ x.Kids, ∀ b : List By8, b.length + (shN ps k false).length <= 140737488355328 -> iter AD n (⟨⟨(), b⟩, ps⟩, k, false) = some (b ++ shN ps k false) := fun k hk b hb => Th hp n k b false (by have := G5 hk; omega) (hkid k hk) hb;rw [C4];generalize iter AD n = rc at ih ⊢;rw [Ik] at hb ⊢;unfold AD AA;dsimp only;by_cases e3 : x.Kind = 3
  ·rw [if_pos e3] at hb ⊢;rw [show (x.Kind == (3 : Int)) = true by simp [e3], bb, VB _ o5, ba, Ql _ _ _ (by simp) (by simp only [List.flatten_cons, List.flatten_nil, List.append_nil]; omega), ba];simp
  rw [if_neg e3] at hb ⊢;rw [show (x.Kind == (3 : Int)) = false by simp [e3], bc];by_cases e4 : x.Kind = 4
  ·rw [if_pos e4] at hb ⊢;rw [show (x.Kind == (4 : Int)) = true by simp [e4], bb, Ql _ _ _ (by simp) (by simp only [List.flatten_cons, List.flatten_nil, List.append_nil, bm, bi, bj] at hb ⊢; omega), ba];simp
  rw [if_neg e4] at hb ⊢;rw [show (x.Kind == (4 : Int)) = false by simp [e4], bc];by_cases e5 : x.Kind = 5
  ·rw [if_pos e5] at hb ⊢;rw [show (x.Kind == (5 : Int)) = true by simp [e5], bb, Ql _ _ _ (by simp) (by simp only [List.flatten_cons, List.flatten_nil, List.append_nil, bm, bi, bj] at hb ⊢; omega), ba];by_cases et : x.Text = []
   ·rw [if_pos et] at hb ⊢;rw [et, show (!(([] : List By8) == ([] : List By8))) = false by decide, bc, Ql _ _ _ (by simp) (by simp only [List.flatten_cons, List.flatten_nil, List.append_nil, bm, bi, bj] at hb ⊢; omega), ba];simp
   ·rw [if_neg et] at hb ⊢;rw [show (!(x.Text == ([] : List By8))) = true by simp [et], bb, Ql _ _ _ (by simp) (by simp only [List.flatten_cons, List.flatten_nil, List.append_nil, bm, bi, bj] at hb ⊢; omega), ba, Ql _ _ _ (by simp) (by simp only [List.flatten_cons, List.flatten_nil, List.append_nil, bm, bi, bj] at hb ⊢; omega), ba];simp
  rw [if_neg e5] at hb ⊢;have e2 : x.Kind = 2 := by rcases o6 with h | h | h | h <;> first | exact h | exact absurd h e3 | exact absurd h e4 | exact absurd h e5
  rw [show (x.Kind == (5 : Int)) = false by simp [e5], bc, show (x.Kind == (2 : Int)) = true by simp [e2], bb];unfold Bu AA;dsimp only;simp only [bm, bi, bj] at hb;rw [Tl _ ps hp.ss (by omega) _ o1, ba, Ql _ _ _ (by simp) (by simp only [List.flatten_cons, List.flatten_nil, List.append_nil, bm, bi, bj]; omega), ba];rw [Acd hp _ _ top (by simp only [List.flatten_cons, List.flatten_nil, List.append_nil, bm, bi, bj]; omega), ba];rw [Abl hp _ _ x (hx x (by rw [Bn]; exact List.mem_cons_self)) (by simp only [List.flatten_cons, List.flatten_nil, List.append_nil, bm, bi, bj]; omega), ba];rw [Ql _ _ _ (by simp) (by simp only [List.flatten_cons, List.flatten_nil, List.append_nil, bm, bi, bj]; omega), ba];rw [Ack _ _ x o4 rc (by simp only [List.flatten_cons, List.flatten_nil, List.append_nil, bm, bi, bj]; omega) ih, ba];rw [Ql _ _ _ (by simp) (by simp only [List.flatten_cons, List.flatten_nil, List.append_nil, bm, bi, bj]; omega), ba];simp

set_option linter.unusedSimpArgs false
set_option linter.unusedVariables false
set_option maxRecDepth 20000
theorem In {a b : List By8} (h : a.length + b.length <= 140737488355328) : cat a b = some (a ++ b) := EP (by omega)
theorem Aar {ps : List (List By8)} (hp : okP ps) (b : List By8) (h : b.length + (nsX ps ps.length).length <= 140737488355328) :
  iter (Bt ps) FUEL (b, (0 : Int)) = some (b ++ nsX ps ps.length) := by
 have hpl := hp.len;obtain ⟨o, ho, hr⟩ := AB (b := Bt ps) (fun i s => s = (b ++ nsX ps i, (i : Int))) (fun o => o = b ++ nsX ps ps.length) ps.length (x0 := (b, (0 : Int))) (by simp [nsX])
  (fun i s rec hi hs => by
   subst hs;left;refine ⟨(b ++ nsX ps (i + 1), ((i + 1 : Nat) : Int)), ?_, rfl⟩;have he := hp.each _ (bn hi);have hle := PR ps (ps.length - (i + 1)) (i + 1);rw [show i + 1 + (ps.length - (i + 1)) = ps.length by omega, GY, bm] at hle;have hd := WN (i + 1) (by omega) (by omega);have hone : KU ps i = [32, 120, 109, 108, 110, 115, 58, 110] ++ Lib.decDigits (i + 1) ++ [61, 34] ++ ps[i].flatMap escQ ++ [34] := by
    unfold KU JM;rw [List.getD_eq_getElem?_getD, List.getElem?_eq_getElem hi];simp
   rw [GY, hone];rw [hone] at hle;simp only [bm, bi, bj] at hle;unfold Bt;dsimp only;rw [bf (by omega), bb, Aq hi, ba, w64 (by omega) (by omega), show ((i : Int) + 1) = ((i + 1 : Nat) : Int) by omega, hd];rw [In (by simp only [bm, bi, bj]; omega), ba, ba];rw [In (by simp only [bm, bi, bj]; omega), ba];rw [In (by simp only [bm, bi, bj]; omega), ba, Qr _ he, ba];rw [In (by simp only [bm, bi, bj]; omega), ba];rw [In (by simp only [bm, bi, bj]; omega), ba]
   simp only [List.append_assoc])
  (fun s rec hs => ⟨b ++ nsX ps ps.length, by
   subst hs;unfold Bt;dsimp only
   rw [bg (by omega), bc], rfl⟩) (n := FUEL) (by unfold FUEL; omega)
 rw [ho, hr]
theorem Acm {ps : List (List By8)} (hp : okP ps) (b : List By8) (x : Aa) (hx : okD ps x) (h : b.length + (Dv ps x.Attrs).length <= 140737488355328) :
  iter (BZ ps x) FUEL (b, (0 : Int)) = some (b ++ Dv ps x.Attrs) := by
 obtain ⟨_, ha, hal, _⟩ := hx;have hpl := hp.len;obtain ⟨o, ho, hr⟩ := AB (b := BZ ps x) (fun i s => s = (b ++ Dv ps (x.Attrs.take i), (i : Int))) (fun o => o = b ++ Dv ps x.Attrs) x.Attrs.length (x0 := (b, (0 : Int))) (by simp [Dv])
  (fun i s rec hi hs => by
   subst hs;left;refine ⟨(b ++ Dv ps (x.Attrs.take (i + 1)), ((i + 1 : Nat) : Int)), ?_, rfl⟩;obtain ⟨h1, h2⟩ := ha _ (bn hi);have hle := NL ps x.Attrs (i + 1);rw [GW ps hi, bm] at hle;rw [GW ps hi];unfold Tv at hle ⊢;simp only [bm, bi, bj] at hle;unfold BZ;dsimp only;rw [bf (by omega), bb, Aq hi, ba];rw [In (by simp only [bm, bi, bj]; omega), ba, Z2 ps hp.ss hp.ne (by omega) _ h1, ba];rw [In (by simp only [bm, bi, bj]; omega), ba];rw [In (by simp only [bm, bi, bj]; omega), ba, Qr _ h2, ba];rw [In (by simp only [bm, bi, bj]; omega), ba];rw [In (by simp only [bm, bi, bj]; omega), ba, w64 (by omega) (by omega)];simp only [List.append_assoc]
   rfl)
  (fun s rec hs => ⟨b ++ Dv ps x.Attrs, by
   subst hs;unfold BZ;dsimp only
   rw [bg (by omega), bc, List.take_length], rfl⟩) (n := FUEL) (by unfold FUEL; omega)
 rw [ho, hr]
theorem Aa3 {ps : List (List By8)} (b : List By8) (x : Aa) (hx : x.Kids.length <= 1049600) (rc : List (List By8) × Aa × Bool -> Option (List By8))
  (h : b.length + (shL ps x.Kids).length <= 140737488355328) (hrc : ∀ k ∈ x.Kids, (shN ps k false).length <= 140737488355328 -> rc (ps, k, false) = some (shN ps k false)) :
  iter (BY ps x rc) FUEL (b, (0 : Int)) = some (b ++ shL ps x.Kids) := by
 obtain ⟨o, ho, hr⟩ := AB (b := BY ps x rc) (fun i s => s = (b ++ shL ps (x.Kids.take i), (i : Int))) (fun o => o = b ++ shL ps x.Kids) x.Kids.length (x0 := (b, (0 : Int))) (by simp [shL])
  (fun i s rec hi hs => by
   subst hs;left;refine ⟨(b ++ shL ps (x.Kids.take (i + 1)), ((i + 1 : Nat) : Int)), ?_, rfl⟩;have hle := Sv ps x.Kids (i + 1);rw [II ps hi, bm] at hle;unfold BY;dsimp only;rw [bf (by omega), bb, Aq hi, ba, hrc _ (bn hi) (by omega), ba, In (by rw [bm]; omega), ba, II ps hi, List.append_assoc, w64 (by omega) (by omega)]
   rfl)
  (fun s rec hs => ⟨b ++ shL ps x.Kids, by
   subst hs;unfold BY;dsimp only
   rw [bg (by omega), bc, List.take_length], rfl⟩) (n := FUEL) (by unfold FUEL; omega)
 rw [ho, hr]
theorem SZ {ps : List (List By8)} (hp : okP ps) : ∀ (n : Nat) (x : Aa) (top : Bool), szN x < n -> (∀ y ∈ AE x, okD ps y) -> (shN ps x top).length <= 140737488355328 ->
  iter Cd n (ps, x, top) = some (shN ps x top)
 | 0, x, top, h, _, _ => by omega
 | n + 1, x, top, h, hx, hb => by
  have hpl := hp.len;have hk := D9 x;have hxx := hx x (by rw [Bn]; exact List.mem_cons_self);obtain ⟨o1, o2, o3, o4, o5, o6⟩ := hxx
  have hkid : ∀ k ∈ x.Kids, ∀ y ∈ AE k, okD ps y := fun k hk y hy => hx y (by
   rw [Bn];refine List.mem_cons_of_mem _ ?_;obtain ⟨l1, l2, e⟩ := List.append_of_mem hk;rw [e, DP];simp only [BJ]
   simp [hy])
  have ih : ∀ k ∈ x.Kids, (shN ps k false).length <= 140737488355328 -> iter Cd n (ps, k, false) = some (shN ps k false) := fun k hk hb => SZ hp n k false (by have := G5 hk; omega) (hkid k hk) hb;rw [C4];generalize iter Cd n = rc at ih ⊢;rw [Ik] at hb ⊢;unfold Cd AA;dsimp only;by_cases e3 : x.Kind = 3
  ·rw [if_pos e3] at hb ⊢;rw [show (x.Kind == (3 : Int)) = true by simp [e3], bb, Xc _ o5, ba]
  rw [if_neg e3] at hb ⊢;rw [show (x.Kind == (3 : Int)) = false by simp [e3], bc];by_cases e4 : x.Kind = 4
  ·rw [if_pos e4] at hb ⊢;simp only [bm, bi, bj] at hb;rw [show (x.Kind == (4 : Int)) = true by simp [e4], bb, In (by simp only [bm, bi, bj]; omega), ba, In (by simp only [bm, bi, bj]; omega), ba]
  rw [if_neg e4] at hb ⊢;rw [show (x.Kind == (4 : Int)) = false by simp [e4], bc];by_cases e5 : x.Kind = 5
  ·rw [if_pos e5] at hb ⊢;rw [show (x.Kind == (5 : Int)) = true by simp [e5], bb];by_cases et : x.Text = []
   ·rw [if_pos et] at hb ⊢;simp only [bm, bi, bj] at hb;rw [show (x.Text == ([] : List By8)) = true by simp [et], bb, In (by simp only [bm, bi, bj]; omega), ba, In (by simp only [bm, bi, bj]; omega), ba];simp
   ·rw [if_neg et] at hb ⊢;simp only [bm, bi, bj] at hb;rw [show (x.Text == ([] : List By8)) = false by simp [et], bc, In (by simp only [bm, bi, bj]; omega), ba, In (by simp only [bm, bi, bj]; omega), ba, In (by simp only [bm, bi, bj]; omega), ba, In (by simp only [bm, bi, bj]; omega), ba];simp
  rw [if_neg e5] at hb ⊢;rw [show (x.Kind == (5 : Int)) = false by simp [e5], bc];simp only [bm, bi, bj] at hb;have hpull : ∀ q : List By8 -> Option (List By8), (cond top ((iter (Bt ps) FUEL (([60] : List By8) ++ nmX ps x.Name, (0 : Int))).bind fun o => q o) (q (([60] : List By8) ++ nmX ps x.Name))) = q (([60] : List By8) ++ nmX ps x.Name ++ if top then nsX ps ps.length else []) := fun q => by
   cases top with
   | true =>
    simp only [if_true] at hb ⊢;rw [bb, Aar hp _ (by simp only [bm, bi, bj]; omega), ba]
   | false => simp
  rw [Z2 ps hp.ss hp.ne (by omega) _ o1, ba, In (by simp only [bm, bi, bj]; omega), ba];refine (hpull _).trans ?_;rw [Acm hp _ x (hx x (by rw [Bn]; exact List.mem_cons_self)) (by simp only [bm, bi, bj]; omega), ba];rw [In (by simp only [bm, bi, bj]; omega), ba];rw [Aa3 _ x o4 rc (by simp only [bm, bi, bj]; omega) ih, ba];rw [In (by simp only [bm, bi, bj]; omega), ba];rw [In (by simp only [bm, bi, bj]; omega), ba];rw [In (by simp only [bm, bi, bj]; omega), ba];simp only [List.append_assoc]

set_option linter.unusedSimpArgs false
set_option linter.unusedVariables false
set_option maxRecDepth 20000
theorem PI {ps : List (List By8)} (hp : okP ps) (n : Ad) : (nmX ps n).length <= 23 + n.Local.length := by
 have hl := hp.len;have hp := Hw n.URI ps;have := K5 (DA n.URI ps) (by omega);unfold nmX;split
 ·omega
 ·split <;> simp only [bm, bi, bj] <;> omega
theorem LJ {ps : List (List By8)} (hp : okP ps) : ∀ l : List Ae, (Dv ps l).length <= 60 * (List.map (fun x : Ae => ((((x.Name.URI.length + 1) + ((x.Name.Local.length + 1) + 0)) + 1) + ((x.Value.length + 1) + 0)) + 1) l).sum
 | [] => by simp [Dv]
 | a :: l => by
  have h1 := LJ hp l;have h2 := PI hp a.Name;have h3 := HQ KF a.Value;have e : Dv ps (a :: l) = Tv ps a ++ Dv ps l := by unfold Dv; simp
  rw [e, bm, List.map_cons, List.sum_cons];unfold Tv;simp only [bm, bi, bj];omega
mutual
theorem Qx {ps : List (List By8)} (hp : okP ps) : ∀ x : Aa, (shN ps x false).length <= 60 * szN x
 | ⟨K, N, A, Ks, T⟩ => by
  have h1 := PK hp Ks;have h2 := LJ hp A;have h3 := PI hp N;have h4 := HQ NO T;simp only [szN, Ax, shN];split
  ·omega
  split
  ·simp only [bm, bi, bj]; omega
  split
  ·split <;> simp only [bm, bi, bj] <;> omega
  ·simp only [Bool.false_eq_true, if_false, bm, bi, bj];omega
theorem PK {ps : List (List By8)} (hp : okP ps) : ∀ l : List Aa, (shL ps l).length <= 60 * FD l
 | [] => by simp [shL]
 | k :: l => by
  have h1 := Qx hp k;have h2 := PK hp l;simp only [shL, FD, bm];have : szN k = Ax k := rfl;omega
end
theorem Tz {ps : List (List By8)} (x : Aa) : (shN ps x true).length <= (shN ps x false).length + (nsX ps ps.length).length := by
 rw [Ik, Ik];split
 ·omega
 split
 ·omega
 split
 ·omega
 ·simp only [if_true, Bool.false_eq_true, if_false, bm, bi, bj];omega
theorem ND : ∀ (n : Nat) (x : Aa), szN x < n -> (∀ y ∈ AE x, EV y = true) -> ∀ y ∈ BJ x.Kids, y.Kind = 2 \/ y.Kind = 3 \/ y.Kind = 4 \/ y.Kind = 5
 | 0, x, h, _, _, _ => by omega
 | n + 1, x, h, hx, y, hy => by
  have hk := D9 x;have hfl : ∀ (l : List Aa) (y : Aa), y ∈ BJ l -> ∃ k ∈ l, y ∈ AE k := by
   intro l
   induction l with
   | nil => intro y hy; simp [BJ] at hy
   | cons k l ih =>
    intro y hy;simp only [BJ, List.mem_append] at hy;rcases hy with hy | hy
    ·exact ⟨k, List.mem_cons_self, hy⟩
    ·obtain ⟨k', h1, h2⟩ := ih y hy;exact ⟨k', List.mem_cons_of_mem _ h1, h2⟩
  obtain ⟨k, hkm, hyk⟩ := hfl _ _ hy;have hsub : ∀ y ∈ AE k, y ∈ AE x := fun y hy => by
   rw [Bn x];refine List.mem_cons_of_mem _ ?_;obtain ⟨l1, l2, e⟩ := List.append_of_mem hkm;rw [e, DP];simp only [BJ];simp [hy]
  have hkk : k.Kind = 2 \/ k.Kind = 3 \/ k.Kind = 4 \/ k.Kind = 5 := by
   have h1 := hx x (by rw [Bn]; exact List.mem_cons_self);unfold EV at h1;have h2 := List.all_eq_true.1 (Bool.and_eq_true_iff.1 h1).1 k hkm;unfold HM HF at h2;simp only [Bool.or_eq_true, Bool.and_eq_true, beq_iff_eq] at h2;omega
  rw [Bn] at hyk;rcases List.mem_cons.1 hyk with e | e
  ·subst e; exact hkk
  ·exact ND n k (by have := G5 hkm; omega) (fun z hz => hx z (hsub z hz)) y e
theorem Pm (s : List By8) : K3 s = true ↔ s ≠ [] := by unfold K3; simp
theorem TU {d y : Aa} (hy : y ∈ AE d) {u : List By8} (hu : u = y.Name.URI \/ ∃ a ∈ y.Attrs, u = a.Name.URI) (hne : u ≠ []) : u ∈ Dy d := by
 unfold Dy;rw [List.mem_flatMap];refine ⟨y, hy, ?_⟩;unfold JL;rw [List.mem_filter];refine ⟨?_, (Pm u).2 hne⟩;rcases hu with rfl | ⟨a, ha, rfl⟩
 ·simp
 ·simp only [List.mem_append, List.mem_map];exact .inr ⟨a, ha, rfl⟩
theorem Nw {d : Aa} : ∀ u ∈ Dy d, u ≠ [] /\ u.length <= szN d := by
 intro u hu;unfold Dy at hu;obtain ⟨y, hy, h⟩ := List.mem_flatMap.1 hu;unfold JL at h;obtain ⟨h1, h2⟩ := List.mem_filter.1 h;refine ⟨(Pm u).1 h2, ?_⟩;have hz := Gc d y hy;rcases List.mem_append.1 h1 with h | h
 ·rw [List.mem_singleton] at h; subst h;exact Nat.le_trans (Fo y).1 hz
 ·obtain ⟨a, ha, rfl⟩ := List.mem_map.1 h;exact Nat.le_trans (GP ha).1 hz
theorem PX_ok (d : Aa) (hd : szN d <= 1049600) : okP (PX d) := by
 refine ⟨PX_ss d, fun h => ?_, Nat.le_trans (PX_len d) hd, fun x hx => ?_⟩
 ·exact (Nw _ ((PX_mem d _).1 h).1).1 rfl
 ·exact Nat.le_trans (Nw _ ((PX_mem d x).1 hx).1).2 hd
theorem QR {d y : Aa} (hd : szN d <= 1049600) (hy : y ∈ AE d) {n : Ad} (hu : n.URI = y.Name.URI \/ ∃ a ∈ y.Attrs, n.URI = a.Name.URI) (hl : n.Local.length <= 1049600) (hl2 : n.URI.length <= 1049600) : We (PX d) n := by
 refine ⟨?_, hl, hl2⟩;by_cases e1 : n.URI = []
 ·exact .inl e1
 by_cases e2 : n.URI = HD
 ·exact .inr (.inl e2)
 ·exact .inr (.inr ((PX_mem d _).2 ⟨TU hy hu e1, e2⟩))
theorem Qh {d : Aa} (hd : szN d <= 1049600) (hk : ∀ y ∈ AE d, EV y = true) : ∀ y ∈ BJ d.Kids, okD (PX d) y := by
 intro y hy;have hyd : y ∈ AE d := by rw [Bn]; exact List.mem_cons_of_mem _ hy
 have hz := Nat.le_trans (Gc d y hyd) hd;have hn := Fo y;refine ⟨QR hd hyd (.inl rfl) (by omega) (by omega), fun a ha => ?_, Nat.le_trans (Ct y) hz, Nat.le_trans (BI y) hz, by omega, ND (szN d + 1) d (by omega) hk y hy⟩;have := GP ha;exact ⟨QR hd hyd (.inr ⟨a, ha, rfl⟩) (by omega) (by omega), by omega⟩
def FB (ps : List (List By8)) (l : List Aa) : List By8 := l.flatMap fun k => shN ps k true ++ [10]
theorem Nt {ps : List (List By8)} {l : List Aa} {i : Nat} (h : i < l.length) : FB ps (l.take (i + 1)) = FB ps (l.take i) ++ (shN ps l[i] true ++ [10]) := by unfold FB; rw [Gb h, List.flatMap_append]; simp
def wrX (t : List By8) : List By8 × Int := if 65536 < t.length then ([], 6) else (t, 0)
theorem Pu {ps : List (List By8)} (hp : okP ps) : ∀ l : List Aa, (FB ps l).length <= 60 * FD l + l.length * (1 + (nsX ps ps.length).length)
 | [] => by simp [FB]
 | k :: l => by
  have h1 := Pu hp l;have h2 := Tz (ps := ps) k;have h3 := Qx hp k;have e : FB ps (k :: l) = shN ps k true ++ [10] ++ FB ps l := by unfold FB; simp
  have e2 : FD (k :: l) = szN k + FD l := rfl;rw [e, e2];simp only [bm, bi, bj, Nat.add_mul, Nat.one_mul];omega

set_option linter.unusedSimpArgs false
set_option linter.unusedVariables false
set_option maxRecDepth 20000
def lnS (l : List (List By8)) : Nat := (l.map List.length).sum
theorem KM (l m : List (List By8)) : lnS (l ++ m) = lnS l + lnS m := by unfold lnS; simp
theorem E5 (x : List By8) (l : List (List By8)) : lnS (x :: l) = x.length + lnS l := by unfold lnS; simp
theorem Mx {l m : List (List By8)} (h : l.Sublist m) : lnS l <= lnS m := by
 induction h with
 | slnil => exact Nat.le_refl _
 | cons a _ ih => rw [E5]; omega
 | cons_cons a _ ih => rw [E5, E5]; omega
theorem RH {l m : List (List By8)} (h : l.Perm m) : lnS l = lnS m := by
 induction h with
 | nil => rfl
 | cons a _ ih => rw [E5, E5, ih]
 | swap a b l => simp only [E5]; omega
 | trans _ _ h1 h2 => exact h1.trans h2
theorem MQ (l : List (List By8)) : (Lib.compact l).Sublist l := by
 have h : (Lib.compact l).Sublist ((List.range l.length).map fun j => l.toArray[j]!) := by
  unfold Lib.compact Lib.compactUpTo;exact (List.filter_sublist).map _
 have e : ((List.range l.length).map fun j => l.toArray[j]!) = l := by
  refine List.ext_getElem (by simp) fun i h1 h2 => ?_;simp only [List.getElem_map, List.getElem_range];rw [getElem!_pos _ i (by simpa using h2)]; simp
 rwa [e] at h
theorem PZ (l : List Ae) : lnS (l.map fun a => a.Name.URI) <= (List.map (fun x : Ae => ((((x.Name.URI.length + 1) + ((x.Name.Local.length + 1) + 0)) + 1) + ((x.Value.length + 1) + 0)) + 1) l).sum := by
 induction l with
 | nil => simp [lnS]
 | cons a l ih => rw [List.map_cons, E5, List.map_cons, List.sum_cons]; omega
mutual
theorem LE : ∀ x : Aa, lnS (Dy x) <= szN x
 | ⟨K, N, A, Kids, T⟩ => by
  have h1 := LZ Kids;have h2 := PZ A;have h3 : lnS (JL ⟨K, N, A, Kids, T⟩) <= lnS ([N.URI] ++ A.map fun a => a.Name.URI) := Mx (List.filter_sublist);rw [KM, E5] at h3;rw [Km, KM];simp only [szN, Ax];have h0 : lnS ([] : List (List By8)) = 0 := rfl;omega
theorem LZ : ∀ l : List Aa, lnS (Gt l) <= FD l
 | [] => by simp [Gt, BJ, lnS]
 | k :: l => by
  have h1 := LE k;have h2 := LZ l;have e : Gt (k :: l) = Dy k ++ Gt l := by unfold Gt Dy; simp only [BJ, List.flatMap_append]
  rw [e, KM];simp only [FD];have : szN k = Ax k := rfl;omega
end
theorem PX_sum (d : Aa) : lnS (PX d) <= szN d := by
 have h1 := Mx (List.filter_sublist (p := fun x => !(x == HD)) (l := Lib.compact (Gn (Dy d))));have h2 := Mx (MQ (Gn (Dy d)));have h3 : lnS (Gn (Dy d)) = lnS (Dy d) := RH (List.mergeSort_perm _ _);have h4 := LE d;have h5 : lnS (PX d) <= lnS (Lib.compact (Gn (Dy d))) := h1;omega
theorem NV {ps : List (List By8)} (hp : okP ps) : ∀ k, k <= ps.length -> (nsX ps k).length <= 32 * k + 6 * lnS (ps.take k)
 | 0, _ => by simp [nsX]
 | k + 1, hk => by
  have hl := hp.len;have hk' : k < ps.length := by omega
  have h1 := NV hp k (by omega);have h2 := K5 k (by omega);have h3 := HQ KF (ps.getD k []);have e : ps.getD k [] = ps[k] := by rw [List.getD_eq_getElem?_getD, List.getElem?_eq_getElem hk']; rfl
  have h0 : lnS ([] : List (List By8)) = 0 := rfl;rw [GY, bm, Gb hk', KM, E5, h0];unfold KU;rw [e] at h3 ⊢;simp only [bm, bi, bj];omega
theorem Qj (d : Aa) (hd : szN d <= 1049600) : (FB (PX d) d.Kids).length <= 100000000000000 := by
 have hp := PX_ok d hd;have h1 := Pu hp d.Kids;have h2 := NV hp (PX d).length (Nat.le_refl _);rw [List.take_length] at h2;have h3 := PX_sum d;have h4 := PX_len d;have h5 := BI d;have h6 := D9 d;have h7 : d.Kids.length * (1 + (nsX (PX d) (PX d).length).length) <= 1049600 * 40000000 := Nat.mul_le_mul (by omega) (by omega);omega
theorem SN (ps : List (List By8)) (l : List Aa) (i : Nat) : (FB ps (l.take i)).length <= (FB ps l).length := by
 have e := congrArg (fun l => (FB ps l).length) (List.take_append_drop i l);unfold FB at e ⊢;simp only [List.flatMap_append, bm] at e;omega
theorem VZ {d k : Aa} (hk : k ∈ d.Kids) {y : Aa} (hy : y ∈ AE k) : y ∈ BJ d.Kids := by
 obtain ⟨l1, l2, e⟩ := List.append_of_mem hk;rw [e, DP];simp only [BJ];simp [hy]
theorem Aaw (d : Aa) (hd : szN d <= 1049600) (hk : ∀ y ∈ AE d, EV y = true) : iter (CU d (PX d)) FUEL ([], (0 : Int)) = some (FB (PX d) d.Kids) := by
 have hp := PX_ok d hd;have hD := Qh hd hk;have hb := Qj d hd;have hkl := BI d;obtain ⟨o, ho, hr⟩ := AB (b := CU d (PX d)) (fun i s => s = (FB (PX d) (d.Kids.take i), (i : Int))) (fun o => o = FB (PX d) d.Kids) d.Kids.length (x0 := ([], (0 : Int))) (by simp [FB])
  (fun i s rec hi hs => by
   subst hs;left;refine ⟨(FB (PX d) (d.Kids.take (i + 1)), ((i + 1 : Nat) : Int)), ?_, rfl⟩;have hle := SN (PX d) d.Kids (i + 1);rw [Nt hi] at hle ⊢;simp only [bm, bi, bj] at hle;have hm := bn hi;have hn : CE ⟨⟨(), FB (PX d) (d.Kids.take i)⟩, PX d⟩ d.Kids[i] true = some (FB (PX d) (d.Kids.take i) ++ shN (PX d) d.Kids[i] true) :=
    Th hp FUEL _ _ true (by have := GH hm; unfold FUEL; omega) (fun y hy => hD y (VZ hm hy)) (by omega)
   unfold CU;dsimp only;rw [bf (by omega), bb, Aq hi, ba, hn, ba, IG (by rw [bm]; omega), ba, ba, w64 (by omega) (by omega), List.append_assoc]
   rfl)
  (fun s rec hs => ⟨FB (PX d) d.Kids, by
   subst hs;unfold CU;dsimp only
   rw [bg (by omega), bc, List.take_length], rfl⟩) (n := FUEL) (by unfold FUEL; omega)
 rw [ho, hr]
theorem Abh (d : Aa) (hd : szN d <= 1049600) (hk : ∀ y ∈ AE d, EV y = true) : iter (BM d (PX d)) FUEL ([], (0 : Int)) = some (FB (PX d) d.Kids) := by
 have hp := PX_ok d hd;have hD := Qh hd hk;have hb := Qj d hd;have hkl := BI d;obtain ⟨o, ho, hr⟩ := AB (b := BM d (PX d)) (fun i s => s = (FB (PX d) (d.Kids.take i), (i : Int))) (fun o => o = FB (PX d) d.Kids) d.Kids.length (x0 := ([], (0 : Int))) (by simp [FB])
  (fun i s rec hi hs => by
   subst hs;left;refine ⟨(FB (PX d) (d.Kids.take (i + 1)), ((i + 1 : Nat) : Int)), ?_, rfl⟩;have hle := SN (PX d) d.Kids (i + 1);rw [Nt hi] at hle ⊢;simp only [bm, bi, bj] at hle;have hm := bn hi;have hn : Fj (PX d) d.Kids[i] true = some (shN (PX d) d.Kids[i] true) :=
    SZ hp FUEL _ true (by have := GH hm; unfold FUEL; omega) (fun y hy => hD y (VZ hm hy)) (by omega)
   unfold BM;dsimp only;rw [bf (by omega), bb, Aq hi, ba, hn, ba, In (by omega), ba, In (by simp only [bm, bi, bj]; omega), ba, w64 (by omega) (by omega), List.append_assoc]
   rfl)
  (fun s rec hs => ⟨FB (PX d) d.Kids, by
   subst hs;unfold BM;dsimp only
   rw [bg (by omega), bc, List.take_length], rfl⟩) (n := FUEL) (by unfold FUEL; omega)
 rw [ho, hr]
theorem UO {d : Aa} (hd : szN d <= 1049600) (h : AQ d = some 0) : (∀ y ∈ AE d, EV y = true) /\ d.Kids ≠ [] := by
 by_cases h1 : d.Kind = 1
 ·obtain ⟨r, e1, e2⟩ := MF hd h1;have e3 := M9 hd h1 e1;rw [h] at e3;injection e3 with e3
  unfold Uj at e3;have ha : (AE d).all EV = true := by
   cases ha : (AE d).all EV with
   | true => rfl
   | false => rw [if_pos ha] at e3; omega
  have hr1 : r = 1 := by
   (repeat' split at e3) <;> first | omega | (rename_i hr; exact Classical.byContradiction hr) | skip
  refine ⟨fun y hy => List.all_eq_true.1 ha y hy, fun hk => ?_⟩;have : iter (AX d) FUEL ((0 : Int), (0 : Int)) = some 0 := by
   obtain ⟨m, hm⟩ : ∃ m, FUEL = m + 1 := ⟨FUEL - 1, by unfold FUEL; rfl⟩
   rw [hm, C4];unfold AX;dsimp only;rw [hk, bg (by simp), bc]
  rw [this] at e1;injection e1 with e1
  omega
 ·exfalso;unfold AQ at h;rw [Jr d hd, show (d.Kind != (1 : Int)) = true by simpa using h1] at h;simp only [ba, AA, bb] at h;cases h
theorem VS {ps : List (List By8)} {l : List Aa} (h : l ≠ []) : FB ps l ≠ [] := by
 cases l with
 | nil => exact absurd rfl h
 | cons k l => intro e; unfold FB at e; simp at e
theorem Q0 (d : Aa) (hd : szN d <= 1049600) : ∃ r, CY d = some r /\ E3 d = some r /\ r.1.length <= 65536 /\ ∃ c, AQ d = some c /\ (c = 0 -> r = wrX (FB (PX d) d.Kids)) /\ (c ≠ 0 -> r = ([], c)) := by
 obtain ⟨c, hc, _⟩ := OL d hd;have hc2 := Rc d hd;rw [hc] at hc2;unfold CY E3 AA;dsimp only;rw [hc, hc2, ba, ba];by_cases h0 : c = 0
 ·subst h0;obtain ⟨hk, hne⟩ := UO hd hc;have hb := Qj d hd;rw [show ((0 : Int) != (0 : Int)) = false by rfl, bc, bc, Ob d hd, OC d hd, ba, ba, Aaw d hd hk, Abh d hd hk, ba, ba];refine ⟨wrX (FB (PX d) d.Kids), ?_, ?_, ?_, 0, rfl, fun _ => rfl, fun h => absurd rfl h⟩
  ·unfold wrX;by_cases hl : 65536 < (FB (PX d) d.Kids).length
   ·rw [bf (by omega), bb, if_pos hl]
   ·rw [bg (by omega), bc, if_neg hl];have : gdN (FB (PX d) d.Kids) = some () := by
     unfold gdN
     cases ht : FB (PX d) d.Kids with
     | nil => exact absurd ht (VS hne)
     | cons a l => rfl
    rw [this, ba]
  ·unfold wrX;by_cases hl : 65536 < (FB (PX d) d.Kids).length
   ·rw [bf (by omega), bb, if_pos hl]
   ·rw [bg (by omega), bc, if_neg hl]
  ·unfold wrX;split
   ·simp
   ·simp only; omega
 ·rw [show (c != (0 : Int)) = true by simpa using h0, bb, bb];exact ⟨_, rfl, rfl, by simp, c, rfl, fun h => absurd h h0, fun _ => rfl⟩
end Go.Proofs.YtjofelloaofooaaGreatDoor
