/- A step's answer, said plainly. No condition. -/
import Derived.Test.YtmnbjcpikllknaaGreatDoorX1
import Derived.Test.YtmnbjcpikllknaaGreatDoorXR
set_option linter.unusedSimpArgs false
set_option linter.unusedVariables false
set_option maxRecDepth 20000
namespace Go.Proofs.YtmnbjcpikllknaaGreatDoor
abbrev Spt := Ag
theorem Vg {l : List Spt} {f : Spt -> Option Bool} (hl : l.length <= 1073741824) (h : ∀ x ∈ l, ∃ b, f x = some b) : (AL l f = some (-1) /\ l.any (gB f) = false) \/
  ∃ i, ∃ hi : i < l.length, AL l f = some (i : Int) /\ gB f l[i] = true /\ (l.take i).any (gB f) = false := by
 unfold AL;simp only [letJ]
 obtain ⟨o, e, hR⟩ := A0 (b := AU l f) (fun i s => s = (i : Int) /\ (l.take i).any (gB f) = false) (fun o => match o with | .inl _ => l.any (gB f) = false | .inr z => ∃ i, ∃ hi : i < l.length, z = (i : Int) /\ gB f l[i] = true /\ (l.take i).any (gB f) = false) l.length (x0 := (0 : Int)) ⟨rfl, rfl⟩ (by
  rintro i _ rec hi ⟨rfl, ha⟩;obtain ⟨b, hb⟩ := h _ (List.getElem_mem hi);have hg : gB f l[i] = b := by simp [gB, hb]
  unfold AU;rw [decide_eq_true (by omega), cond_true, AG hi, Option.bind_some, hb, Option.bind_some]
  cases b with
  | true => exact .inr ⟨_, rfl, i, hi, rfl, hg, ha⟩
  | false =>
   refine .inl ⟨((i + 1 : Nat) : Int), ?_, rfl, ?_⟩
   ·rw [cond_false, w64 (by omega) (by omega)]; rfl
   ·rw [List.take_succ_eq_append_getElem hi, List.any_append, ha, List.any_cons, hg]; rfl) (by
  rintro _ rec ⟨rfl, ha⟩;refine ⟨.inl (), ?_, ?_⟩
  ·unfold AU;rw [decide_eq_false (by omega), cond_false]
  ·rw [List.take_length] at ha; exact ha) (n := FUEL) (by unfold FUEL; omega)
 rw [e, Option.bind_some]
 cases o with
 | inl u => exact .inl ⟨rfl, hR⟩
 | inr z => obtain ⟨i, hi, rfl, h1, h2⟩ := hR; exact .inr ⟨i, hi, rfl, h1, h2⟩
theorem LQ {α : Type} {l : List α} {p : α -> Bool} (h : l.any p = false) : l.filter (fun x => !p x) = l :=
 List.filter_eq_self.2 fun x hx => by have := List.any_eq_false.1 h x hx; simpa using this
theorem T7 {l : List Spt} {f : Spt -> Option Bool} (hl : l.length <= 1073741824) (h : ∀ x ∈ l, ∃ b, f x = some b) : AY l f = some (l.filter fun x => !gB f x) := by
 unfold AY;simp only [letJ];rcases Vg hl h with ⟨e, ha⟩ | ⟨i, hi, e, hg, ha⟩
 ·rw [e, Option.bind_some, LQ ha]; rfl
 rw [e, Option.bind_some, show ((i : Int) == (-1 : Int)) = false by simp, cond_false, w64 (by omega) (by omega)];obtain ⟨o, e, hR⟩ := A0 (b := AP f)
  (fun m s => s.2.2 = ((i + 1 + m : Nat) : Int) /\ s.1.length = l.length /\ s.2.1 = (((l.take (i + 1 + m)).filter fun x => !gB f x).length : Int) /\ ((l.take (i + 1 + m)).filter fun x => !gB f x).length < i + 1 + m /\
   s.1.take ((l.take (i + 1 + m)).filter fun x => !gB f x).length = (l.take (i + 1 + m)).filter (fun x => !gB f x) /\ s.1.drop (i + 1 + m) = l.drop (i + 1 + m))
  (fun o => o.1.length = l.length /\ o.2 = ((l.filter fun x => !gB f x).length : Int) /\ (l.filter fun x => !gB f x).length < l.length /\ o.1.take (l.filter fun x => !gB f x).length = l.filter fun x => !gB f x) (l.length - (i + 1)) (x0 := (l, (i : Int), (i : Int) + 1)) (by
   have e1 : ((l.take (i + 1)).filter fun x => !gB f x) = l.take i := by
    rw [List.take_succ_eq_append_getElem hi, List.filter_append, LQ ha];simp [hg]
   have e2 : (l.take i).length = i := by rw [List.length_take]; omega
   refine ⟨by simp, rfl, ?_, ?_, ?_, rfl⟩
   ·simp only [Nat.add_zero]; rw [e1, e2]
   ·simp only [Nat.add_zero]; rw [e1, e2]; omega
   ·simp only [Nat.add_zero]; rw [e1, e2]) (by
   rintro m ⟨a, p, j⟩ rec hm ⟨h1, h2, h3, h4, h5, h6⟩;simp only at h1 h2 h3 h5 h6;subst h1 h3;have hj : i + 1 + m < l.length := by omega
   have hja : i + 1 + m < a.length := by omega
   have hx : a[i + 1 + m] = l[i + 1 + m] := by
    have := congrArg (fun z => z[0]?) h6;simp only [List.getElem?_drop, Nat.add_zero, List.getElem?_eq_getElem hja, List.getElem?_eq_getElem hj] at this;exact Option.some.inj this
   obtain ⟨b, hb⟩ := h _ (List.getElem_mem hj);have hg' : gB f l[i + 1 + m] = b := by simp [gB, hb]
   have et : (l.take (i + 1 + (m + 1))).filter (fun x => !gB f x) = (l.take (i + 1 + m)).filter (fun x => !gB f x) ++ (if b then [] else [l[i + 1 + m]]) := by
    rw [show i + 1 + (m + 1) = (i + 1 + m) + 1 by omega, List.take_succ_eq_append_getElem hj, List.filter_append];congr 1;cases b <;> simp [hg']
   generalize hF : (l.take (i + 1 + m)).filter (fun x => !gB f x) = F at h4 h5 et ⊢;have hd : a.drop (i + 1 + (m + 1)) = l.drop (i + 1 + (m + 1)) := by
    have := congrArg (List.drop 1) h6;simpa [List.drop_drop, Nat.add_assoc] using this
   unfold AP;simp only [letJ];left;rw [decide_eq_true (by omega), cond_true, AG hja, Option.bind_some, hx, hb, Option.bind_some]
   cases b with
   | true =>
    refine ⟨(a, (F.length : Int), ((i + 1 + (m + 1) : Nat) : Int)), ?_, rfl, h2, ?_, ?_, ?_, hd⟩
    ·rw [Bool.not_true, cond_false, w64 (by omega) (by omega)]; rfl
    ·rw [et]; simp
    ·rw [et]; simp; omega
    ·rw [et]; simpa using h5
   | false =>
    have hFa : F.length < a.length := by omega
    refine ⟨(a.set F.length l[i + 1 + m], ((F.length + 1 : Nat) : Int), ((i + 1 + (m + 1) : Nat) : Int)), ?_, rfl, by simp [h2], ?_, ?_, ?_, ?_⟩
    ·rw [Bool.not_false, cond_true, AG hFa];simp only [Option.bind_some, Int.toNat_natCast];rw [w64 (by omega) (by omega), w64 (by omega) (by omega)]; rfl
    ·rw [et]; simp
    ·rw [et]; simp; omega
    ·rw [et];simp only [Bool.false_eq_true, if_false, List.length_append, List.length_cons, List.length_nil, Nat.zero_add];rw [List.take_succ_eq_append_getElem (by simp; omega), List.take_set_of_le (Nat.le_refl _), h5];simp
    ·rw [List.drop_set_of_lt (by omega)]; exact hd) (by
   rintro ⟨a, p, j⟩ rec ⟨h1, h2, h3, h4, h5, h6⟩;simp only at h1 h2 h3 h5 h6;subst h1 h3;have el : i + 1 + (l.length - (i + 1)) = l.length := by omega
   rw [el, List.take_length] at h4 h5;refine ⟨(a, ((l.filter fun x => !gB f x).length : Int)), ?_, h2, rfl, h4, h5⟩;unfold AP;simp only [letJ]
   rw [el, decide_eq_false (by omega), cond_false, List.take_length]) (n := FUEL) (by unfold FUEL; omega)
 rw [e, Option.bind_some];obtain ⟨a, p⟩ := o;obtain ⟨r1, r2, r3, r4⟩ := hR;simp only at r1 r2 r4 ⊢;subst r2;rw [HC (by omega), Option.bind_some];unfold ltL;rw [if_pos (by omega), Option.bind_some, Int.toNat_natCast, r4]
def Gr (p : List Int) : Nat -> List Ab -> List Spt
 | _, [] => []
 | i, k :: l => ⟨p ++ [(i : Int)], k⟩ :: Gr p (i + 1) l
def EN (s : Spt) : List Spt := Gr s.path 0 s.node.Kids
theorem LF (p : List Int) (x : Ab) : ∀ (l : List Ab) (i : Nat), Gr p i (l ++ [x]) = Gr p i l ++ [⟨p ++ [((i + l.length : Nat) : Int)], x⟩]
 | [], i => by simp [Gr]
 | y :: l, i => by
  simp only [List.cons_append, Gr, LF p x l (i + 1), List.length_cons];rw [show i + 1 + l.length = i + (l.length + 1) by omega]
theorem Gq (p : List Int) : ∀ (l : List Ab) (i : Nat), (Gr p i l).length = l.length
 | [], _ => rfl
 | _ :: l, i => by simp only [Gr, List.length_cons, Gq p l]
theorem D9 {p : List Int} {s : Spt} : ∀ {l : List Ab} {i : Nat}, s ∈ Gr p i l -> ∃ j, ∃ h : j < l.length, s = ⟨p ++ [((i + j : Nat) : Int)], l[j]⟩
 | [], i, h => by cases h
 | k :: l, i, h => by
  rcases List.mem_cons.1 h with rfl | h
  ·exact ⟨0, by simp, rfl⟩
  ·obtain ⟨j, hj, e⟩ := D9 h;refine ⟨j + 1, by simp; omega, ?_⟩;rw [e, show i + 1 + j = i + (j + 1) by omega]; rfl
def P4 (st : Ak) (k : Ab) : Bool := (Ct st k).getD false
theorem Ro (st : Ak) (k : Ab) : Ct st k = some (P4 st k) := by
 have : ∃ b, Ct st k = some b := by
  unfold Ct;cases (st.test == ([42] : List UInt8)) <;> cases (st.test == ([116, 101, 120, 116] : List UInt8)) <;> cases (st.test == ([99, 111, 109, 109, 101, 110, 116] : List UInt8)) <;> cases (st.test == ([110, 111, 100, 101] : List UInt8)) <;> exact ⟨_, rfl⟩
 obtain ⟨b, hb⟩ := this;unfold P4;rw [hb]; rfl
def SC (c : Ac) (n : Ab) : Bool := (B7 c n).getD false
def OkC (c : Ac) (N : Nat) : Prop := (∀ n, szN n <= N -> ∃ b, B7 c n = some b) /\ (c.kind = 91 -> 1 <= c.k /\ c.k <= 1000000000)
def Fu (l : List Spt) (c : Ac) : List Spt := if c.kind = 91 then (l.drop (c.k.toNat - 1)).take 1 else l.filter fun s => SC c s.node
def ofP (st : Ak) (s : Spt) : List Spt := st.conds.foldl Fu ((EN s).filter fun k => P4 st k.node)
theorem Rz (l : List Spt) (c : Ac) : (Fu l c).Sublist l := by
 unfold Fu;split
 ·exact (List.take_sublist _ _).trans (List.drop_sublist _ _)
 ·exact List.filter_sublist
theorem Mn : ∀ (cs : List Ac) (l : List Spt), (cs.foldl Fu l).Sublist l
 | [], l => .refl _
 | c :: cs, l => (Mn cs (Fu l c)).trans (Rz l c)
theorem If (st : Ak) (s : Spt) : (ofP st s).Sublist (EN s) := (Mn _ _).trans List.filter_sublist
theorem OX : ∀ (cs : List Ac), cs.foldl Fu [] = []
 | [] => rfl
 | c :: cs => by
  have : Fu [] c = [] := by unfold Fu; split <;> simp
  rw [List.foldl_cons, this, OX cs]
theorem VV {N : Nat} (st : Ak) (s : Spt) (hN : N <= 1048576) (hs : szN s.node <= N) (hp : s.path.length <= 1048576) (hc : ∀ c ∈ st.conds, OkC c N) (hcl : st.conds.length <= 1073741824) : CD st s = some (ofP st s) := by
 have hk := EW s.node;unfold CD;simp only [letJ]
 obtain ⟨o, e, rfl⟩ := A0 (b := C9 st s) (fun i x => x = ((Gr s.path 0 (s.node.Kids.take i)).filter (fun k => P4 st k.node), (i : Int))) (fun o => o = (EN s).filter fun k => P4 st k.node) s.node.Kids.length (x0 := (([] : List Spt), (0 : Int))) rfl (by
  rintro i _ rec hi rfl;left;have hlen : ((Gr s.path 0 (s.node.Kids.take i)).filter (fun k => P4 st k.node)).length <= 1048576 := by
   have h1 := List.length_filter_le (fun k : Spt => P4 st k.node) (Gr s.path 0 (s.node.Kids.take i));rw [Gq, List.length_take] at h1;omega
  refine ⟨_, ?_, rfl⟩;unfold C9;simp only [letJ];rw [decide_eq_true (by omega), cond_true, AG hi, Option.bind_some, Ro, Option.bind_some, w64 (by omega) (by omega), List.take_succ_eq_append_getElem hi, LF, List.filter_append];have ht : (s.node.Kids.take i).length = i := by rw [List.length_take]; omega
  generalize hA : (Gr s.path 0 (s.node.Kids.take i)).filter (fun k => P4 st k.node) = A at hlen ⊢
  cases hf : P4 st s.node.Kids[i] with
  | false =>
   rw [cond_false];simp [hf]
  | true =>
   rw [cond_true, Cy (by simp only [List.length_nil]; omega) (by simp only [List.length_nil]; omega), Option.bind_some, List.nil_append, Cy (by simp only [List.length_cons, List.length_nil]; omega) (by simp only [List.length_cons, List.length_nil]; omega), Option.bind_some,
    Cy (by simp only [List.length_cons, List.length_nil]; omega) (by simp only [List.length_cons, List.length_nil]; omega), Option.bind_some, Option.bind_some]
   simp [hf, ht]) (by
  rintro _ rec rfl;refine ⟨_, ?_, rfl⟩;unfold C9;dsimp only
  rw [decide_eq_false (by omega), cond_false, List.take_length]; rfl) (n := FUEL) (by unfold FUEL; omega)
 rw [e, Option.bind_some];have hl0 : ((EN s).filter fun k => P4 st k.node).length <= 1048576 := by
  have h1 := List.length_filter_le (fun k : Spt => P4 st k.node) (EN s);unfold EN at h1;rw [Gq] at h1;unfold EN;omega
 have hz0 : ∀ x ∈ (EN s).filter (fun k => P4 st k.node), szN x.node <= N := by
  intro x hx;obtain ⟨j, hj, e⟩ := D9 (List.mem_filter.1 hx).1;have := G5 (List.getElem_mem hj);rw [e]; show szN s.node.Kids[j] <= N; omega
 generalize hL : (EN s).filter (fun k => P4 st k.node) = L at hl0 hz0
 obtain ⟨o, e, hR⟩ := A0 (b := Dd st) (fun i x => x = ((st.conds.take i).foldl Fu L, (i : Int))) (fun o => (match o with | .inl a => a | .inr a => a) = st.conds.foldl Fu L) st.conds.length (x0 := (L, (0 : Int))) rfl (by
  rintro i _ rec hi rfl;have hsub := Mn (st.conds.take i) L;have hl1 := hsub.length_le;have hz1 : ∀ x ∈ (st.conds.take i).foldl Fu L, szN x.node <= N := fun x hx => hz0 x (hsub.subset hx);obtain ⟨c1, c2⟩ := hc _ (List.getElem_mem hi);have et : (st.conds.take (i + 1)).foldl Fu L = Fu ((st.conds.take i).foldl Fu L) st.conds[i] := by
   rw [List.take_succ_eq_append_getElem hi, List.foldl_append]; rfl
  have ed : st.conds.foldl Fu L = (st.conds.drop (i + 1)).foldl Fu (Fu ((st.conds.take i).foldl Fu L) st.conds[i]) := by
   conv => lhs; rw [<- List.take_append_drop (i + 1) st.conds, List.foldl_append, et]
  generalize hA : (st.conds.take i).foldl Fu L = A at hl1 hz1 et ed ⊢;unfold Dd;simp only [letJ];rw [decide_eq_true (by omega), cond_true, AG hi, Option.bind_some, w64 (x := (i : Int) + 1) (by omega) (by omega)];by_cases h91 : st.conds[i].kind = 91
  ·obtain ⟨k1, k2⟩ := c2 h91;rw [show (st.conds[i].kind != (91 : Int)) = false by simp [h91], cond_false, w64 (by omega) (by omega)];by_cases hlt : (A.length : Int) < st.conds[i].k
   ·right;refine ⟨.inr [], by rw [decide_eq_true hlt, cond_true], ?_⟩;have : Fu A st.conds[i] = [] := by
     unfold Fu;rw [if_pos h91, List.drop_of_length_le (by omega)]; rfl
    show [] = _;rw [ed, this, OX]
   ·left;refine ⟨_, ?_, rfl⟩;rw [decide_eq_false hlt, cond_false];unfold Xn;rw [if_pos (by omega), Option.bind_some, et];unfold Fu;rw [if_pos h91, show (st.conds[i].k - 1).toNat = st.conds[i].k.toNat - 1 by omega, show st.conds[i].k.toNat - (st.conds[i].k.toNat - 1) = 1 by omega];rfl
  ·left;refine ⟨_, ?_, rfl⟩;have hg : ∀ x : Spt, szN x.node <= N -> CS x st.conds[i] = some (!SC st.conds[i] x.node) := by
    intro x hx;obtain ⟨b, hb⟩ := c1 x.node hx;unfold CS SC;rw [hb]; rfl
   rw [show (st.conds[i].kind != (91 : Int)) = true by simp [h91], cond_true, T7 (by omega) (fun x hx => ⟨_, hg x (hz1 x hx)⟩), Option.bind_some, et];unfold Fu;rw [if_neg h91];have : A.filter (fun x => !gB (fun z0 => CS z0 st.conds[i]) x) = A.filter (fun s => SC st.conds[i] s.node) := List.filter_congr fun x hx => by
    unfold gB;dsimp only;rw [hg x (hz1 x hx)]; simp
   rw [this]; rfl) (by
  rintro _ rec rfl;refine ⟨.inl ((st.conds.take st.conds.length).foldl Fu L), ?_, ?_⟩
  ·unfold Dd;dsimp only;rw [decide_eq_false (by omega), cond_false]
  ·show (st.conds.take st.conds.length).foldl Fu L = _
   rw [List.take_length]) (n := FUEL) (by unfold FUEL; omega)
 rw [e, Option.bind_some];unfold ofP;rw [hL]
 cases o with
 | inl a => simp only at hR ⊢; rw [hR]
 | inr a => simp only at hR ⊢; rw [hR]

set_option linter.unusedSimpArgs false
set_option linter.unusedVariables false
set_option maxRecDepth 20000
def Gb (st : Ak) : Nat -> Spt -> List Spt
 | 0, _ => []
 | n + 1, s => ofP st s ++ (EN s).flatMap (Gb st n)
theorem Kx {f : Spt -> List Spt} (hf : ∀ s : Spt, (f s).length <= (EI s.node.Kids).length) (p : List Int) : ∀ (l : List Ab) (i : Nat), l.length + ((Gr p i l).flatMap f).length <= (EI l).length
 | [], i => by simp [Gr]
 | x :: l, i => by
  have ih := Kx hf p l (i + 1);have h1 := hf ⟨p ++ [(i : Int)], x⟩;simp only [Gr, List.flatMap_cons, List.length_append, List.length_cons, EI, IA] at h1 ih ⊢;omega
theorem KA (st : Ak) : ∀ (n : Nat) (s : Spt), (Gb st n s).length <= (EI s.node.Kids).length
 | 0, s => by simp [Gb]
 | n + 1, s => by
  have h1 := (If st s).length_le;have h2 := Kx (KA st n) s.path s.node.Kids 0;unfold EN at h1;rw [Gq] at h1;simp only [Gb, List.length_append];unfold EN;omega
theorem Ns (p : List Int) : ∀ (l : List Ab) (i j : Nat) (h : j < l.length), (Gr p i l)[j]? = some ⟨p ++ [((i + j : Nat) : Int)], l[j]⟩
 | [], i, j, h => by simp at h
 | x :: l, i, 0, h => rfl
 | x :: l, i, j + 1, h => by
  simp only [Gr, List.getElem?_cons_succ, List.getElem_cons_succ];rw [Ns p l (i + 1) j (by simpa using h), show i + 1 + j = i + (j + 1) by omega]
theorem Rh {st : Ak} {N : Nat} (hN : N <= 1048576) (hc : ∀ c ∈ st.conds, OkC c N) (hcl : st.conds.length <= 1073741824) : ∀ (n : Nat) (s : Spt), szN s.node < n -> szN s.node <= N ->
  s.path.length + szN s.node <= 1048576 -> iter Bw n (st, s) = some (Gb st n s)
 | 0, s, h, _, _ => by omega
 | n + 1, s, h, hs, hp2 => by
  have hk := EW s.node;have hkl := FB s.node;have ih := fun q => Rh hN hc hcl n q;rw [GX];generalize iter Bw n = rc at ih ⊢;unfold Bw;simp only [letJ];rw [VV st s hN hs (by omega) hc hcl, Option.bind_some];have hof := (If st s).length_le;unfold EN at hof;rw [Gq] at hof
  obtain ⟨o, e, rfl⟩ := A0 (b := Cu st s rc) (fun i x => x = (ofP st s ++ ((EN s).take i).flatMap (Gb st n), (i : Int))) (fun o => o = ofP st s ++ (EN s).flatMap (Gb st n)) s.node.Kids.length (x0 := (ofP st s, (0 : Int))) (by simp) (by
   rintro i _ rec hi rfl;left;have hz := G5 (List.getElem_mem hi);have hpos := MA s.node.Kids[i];have hget := Ns s.path s.node.Kids 0 i hi;rw [Nat.zero_add] at hget;have htake : (EN s).take (i + 1) = (EN s).take i ++ [⟨s.path ++ [(i : Int)], s.node.Kids[i]⟩] := by
    unfold EN;rw [List.take_add_one, hget]; rfl
   have hlenT : (((EN s).take i).flatMap (Gb st n)).length <= 1048576 := by
    have h1 := Kx (KA st n) s.path (s.node.Kids) 0;have h2 := GD s.node.Kids;have h3 : (((EN s).take i).flatMap (Gb st n)).length <= ((EN s).flatMap (Gb st n)).length := by
     conv => rhs; rw [<- List.take_append_drop i (EN s), List.flatMap_append, List.length_append]
     omega
    unfold EN at h3 ⊢;omega
   have hlenK := KA st n ⟨s.path ++ [(i : Int)], s.node.Kids[i]⟩;have hlenK2 := GD s.node.Kids[i].Kids;have hlenK3 := FB s.node.Kids[i];simp only at hlenK;refine ⟨_, ?_, rfl⟩;unfold Cu;dsimp only
   rw [decide_eq_true (by omega), cond_true, AG hi, Option.bind_some, Cy (by simp only [List.length_nil]; omega) (by simp only [List.length_nil]; omega), Option.bind_some, List.nil_append,
    Cy (by simp only [List.length_cons, List.length_nil]; omega) (by simp only [List.length_cons, List.length_nil]; omega), Option.bind_some,
    ih ⟨s.path ++ [(i : Int)], s.node.Kids[i]⟩ (by dsimp only; omega) (by dsimp only; omega) (by simp only [List.length_append, List.length_cons, List.length_nil]; omega), Option.bind_some,
    Cy (by simp only [List.length_append]; omega) (by simp only [List.length_append]; omega), Option.bind_some, w64 (by omega) (by omega), htake, List.flatMap_append]
   simp) (by
   rintro _ rec rfl;refine ⟨_, ?_, rfl⟩;unfold Cu;dsimp only;rw [decide_eq_false (by omega), cond_false];have : (EN s).take s.node.Kids.length = EN s := List.take_of_length_le (by unfold EN; rw [Gq]; exact Nat.le_refl _)
   rw [this]) (n := FUEL) (by unfold FUEL; omega)
  rw [e, Option.bind_some];rfl

set_option linter.unusedSimpArgs false
set_option linter.unusedVariables false
set_option maxRecDepth 20000
theorem Rl : ∀ a b : List Int, Hd a b = GW a b
 | [], [] => rfl
 | [], _ :: _ => rfl
 | _ :: _, [] => rfl
 | x :: a, y :: b => by
  simp only [Hd, GW, Id];by_cases h1 : x < y
  ·simp [h1]
  ·by_cases h2 : y < x
   ·simp [h1, h2]
   ·simp [h1, h2, Rl a b]
theorem OP : ∀ (p q : List Int) (x : Ab), atP x (p ++ q) = (atP x p).bind fun y => atP y q
 | [], q, x => by simp [atP]
 | s :: r, q, x => by
  simp only [List.cons_append, atP];split
  ·rfl
  ·cases x.Kids[s.toNat]? with
   | none => rfl
   | some y => simp only [Option.bind_some]; exact OP r q y
theorem QJ : ∀ (l : List Int) (x y : Ab), atP x l = some y -> l.length + szN y <= szN x
 | [], x, y, h => by simp only [atP, Option.some.injEq] at h; subst h; simp
 | s :: r, x, y, h => by
  simp only [atP] at h;split at h
  ·cases h
  ·obtain ⟨z, hz, h2⟩ := Option.bind_eq_some_iff.1 h;have h3 := QJ r z y h2;have h4 := G5 (List.mem_of_getElem? hz);simp only [List.length_cons]; omega
def Blw (s x : Spt) : Prop := ∃ q, q ≠ [] /\ x.path = s.path ++ q /\ atP s.node q = some x.node
def Dst (l : List Spt) : Prop := (l.map (·.path)).Nodup
def Val (d : Ab) (x : Spt) : Prop := atP d x.path = some x.node
theorem Blw.val {d : Ab} {s x : Spt} (h : Blw s x) (hv : Val d s) : Val d x := by
 obtain ⟨q, _, h1, h2⟩ := h;unfold Val at hv ⊢;rw [h1, OP, hv]; exact h2
theorem Blw.pre {s x : Spt} (h : Blw s x) : s.path <+: x.path := by obtain ⟨q, _, h1, _⟩ := h; exact ⟨q, h1.symm⟩
theorem QV {s x : Spt} (h : x ∈ EN s) : Blw s x := by
 obtain ⟨j, hj, rfl⟩ := D9 h;refine ⟨[((0 + j : Nat) : Int)], by simp, rfl, ?_⟩;have := OY [] s.node (0 + j);simp only [List.nil_append, atP, Option.bind_some] at this ⊢;rw [this];simp [hj]
theorem Tn {st : Ak} {s x : Spt} (h : x ∈ ofP st s) : Blw s x := QV ((If st s).subset h)
theorem Blw.trans {a b c : Spt} (h : Blw a b) (g : Blw b c) : Blw a c := by
 obtain ⟨q, h0, h1, h2⟩ := h;obtain ⟨r, g0, g1, g2⟩ := g;exact ⟨q ++ r, by simp [h0], by rw [g1, h1, List.append_assoc], by rw [OP, h2]; exact g2⟩
theorem It (st : Ak) : ∀ (n : Nat) (s x : Spt), x ∈ Gb st n s -> Blw s x
 | 0, s, x, h => by cases h
 | n + 1, s, x, h => by
  rcases List.mem_append.1 h with h | h
  ·exact Tn h
  ·obtain ⟨k, hk, hx⟩ := List.mem_flatMap.1 h;exact (QV hk).trans (It st n k x hx)
theorem JV (p : List Int) : ∀ (l : List Ab) (i : Nat), Dst (Gr p i l)
 | [], i => List.nodup_nil
 | x :: l, i => by
  refine List.nodup_cons.2 ⟨fun h => ?_, JV p l (i + 1)⟩;obtain ⟨y, hy, e⟩ := List.mem_map.1 h;obtain ⟨j, hj, rfl⟩ := D9 hy;have := List.append_cancel_left e;simp at this;omega
def Inc (a b : Spt) : Prop := ¬ a.path <+: b.path /\ ¬ b.path <+: a.path
theorem L7 {f : Spt -> List Spt} : ∀ (L : List Spt), (∀ s ∈ L, ∀ x ∈ f s, Blw s x) -> (∀ s ∈ L, Dst (f s)) -> L.Pairwise Inc -> Dst (L.flatMap f)
 | [], _, _, _ => List.nodup_nil
 | s :: L, h1, h2, h3 => by
  obtain ⟨g1, g2⟩ := List.pairwise_cons.1 h3;unfold Dst;rw [List.flatMap_cons, List.map_append];refine List.nodup_append.2 ⟨h2 s List.mem_cons_self, L7 L (fun s hs => h1 s (List.mem_cons_of_mem _ hs)) (fun s hs => h2 s (List.mem_cons_of_mem _ hs)) g2, ?_⟩;intro p hp q hq e;subst e;obtain ⟨x, hx, rfl⟩ := List.mem_map.1 hp;obtain ⟨y, hy, e⟩ := List.mem_map.1 hq;obtain ⟨t, ht, hy⟩ := List.mem_flatMap.1 hy;have e1 := (h1 s List.mem_cons_self x hx).pre;have e2 := (h1 t (List.mem_cons_of_mem _ ht) y hy).pre;rw [e] at e2;rcases List.prefix_or_prefix_of_prefix e1 e2 with h | h
  ·exact (g1 t ht).1 h
  ·exact (g1 t ht).2 h
theorem Qy (p : List Int) (l : List Ab) (i : Nat) : (Gr p i l).Pairwise Inc := by
 have h := JV p l i;unfold Dst List.Nodup at h;rw [List.pairwise_map] at h;refine List.Pairwise.imp_of_mem ?_ h;intro a b ha hb hne;obtain ⟨j, _, rfl⟩ := D9 ha;obtain ⟨k, _, rfl⟩ := D9 hb;exact ⟨fun hp => hne (hp.eq_of_length (by simp)), fun hp => hne (hp.eq_of_length (by simp)).symm⟩
theorem Dst.sub {a b : List Spt} (h : Dst b) (hs : a.Sublist b) : Dst a := h.sublist (hs.map _)
theorem QP (st : Ak) (s : Spt) : Dst (ofP st s) := (JV _ _ _).sub (If st s)
theorem M5 (st : Ak) : ∀ (n : Nat) (s : Spt), Dst (Gb st n s)
 | 0, s => List.nodup_nil
 | n + 1, s => by
  unfold Gb Dst;rw [List.map_append];refine List.nodup_append.2 ⟨QP st s, L7 _ (fun k _ x hx => It st n k x hx) (fun k _ => M5 st n k) (Qy _ _ _), ?_⟩;intro p hp q hq e;subst e;obtain ⟨x, hx, rfl⟩ := List.mem_map.1 hp;obtain ⟨y, hy, e⟩ := List.mem_map.1 hq;obtain ⟨k, hk, hy⟩ := List.mem_flatMap.1 hy;obtain ⟨j, _, rfl⟩ := D9 ((If st s).subset hx);obtain ⟨i, _, rfl⟩ := D9 hk;obtain ⟨r, hr, h1, _⟩ := It st n _ y hy;rw [h1] at e;have := congrArg List.length e;simp only [List.length_append, List.length_cons, List.length_nil] at this;exact hr (List.length_eq_zero_iff.1 (by omega))
/- All paths. -/
mutual
def LC : Ab -> List (List Int)
 | ⟨_, _, _, Kids, _⟩ => [] :: Jg 0 Kids
def Jg : Nat -> List Ab -> List (List Int)
 | _, [] => []
 | i, x :: l => (LC x).map ((i : Int) :: ·) ++ Jg (i + 1) l
end
mutual
theorem LP : ∀ x : Ab, (LC x).length <= szN x
 | ⟨k, nm, a, ks, t⟩ => by
  have h1 := LE ks 0;have h2 := FB ⟨k, nm, a, ks, t⟩;simp only [LC, List.length_cons] at h1 h2 ⊢;omega
theorem LE : ∀ (l : List Ab) (i : Nat), (Jg i l).length <= Je l
 | [], _ => by simp [Jg]
 | x :: l, i => by
  have h1 := LP x;have h2 := LE l (i + 1);simp only [Jg, List.length_append, List.length_map, Je] at h1 h2 ⊢;have : szN x = A5 x := rfl;omega
end
theorem Lz {p : List Int} : ∀ (l : List Ab) (i j : Nat) (h : j < l.length), p ∈ LC l[j] -> (((i + j : Nat) : Int) :: p) ∈ Jg i l
 | [], i, j, h, _ => by simp at h
 | x :: l, i, 0, h, hp => by
  simp only [Jg];exact List.mem_append_left _ (List.mem_map.2 ⟨p, hp, rfl⟩)
 | x :: l, i, j + 1, h, hp => by
  simp only [Jg];refine List.mem_append_right _ ?_;have := Lz l (i + 1) j (by simpa using h) (by simpa using hp)
  rwa [show i + 1 + j = i + (j + 1) by omega] at this
theorem LG : ∀ (p : List Int) (x y : Ab), atP x p = some y -> p ∈ LC x
 | [], ⟨k, nm, a, ks, t⟩, y, _ => List.mem_cons_self
 | s :: r, ⟨k, nm, a, ks, t⟩, y, h => by
  simp only [atP] at h;split at h
  ·cases h
  ·rename_i hs;obtain ⟨z, hz, h2⟩ := Option.bind_eq_some_iff.1 h;have h3 := LG r z y h2;obtain ⟨hj, rfl⟩ := List.getElem?_eq_some_iff.1 hz;have := Lz ks 0 s.toNat hj h3;rw [show (((0 + s.toNat : Nat) : Int)) = s by omega] at this;exact List.mem_cons_of_mem _ this
theorem Ni : ∀ {l m : List (List Int)}, l.Nodup -> (∀ x ∈ l, x ∈ m) -> l.length <= m.length
 | [], m, _, _ => Nat.zero_le _
 | x :: l, m, h, hs => by
  obtain ⟨h1, h2⟩ := List.nodup_cons.1 h;have hx := hs x List.mem_cons_self;have := Ni (m := m.erase x) h2 fun y hy => (List.mem_erase_of_ne (fun e => h1 (by rw [<- e]; exact hy))).2 (hs y (List.mem_cons_of_mem _ hy));rw [List.length_erase_of_mem hx] at this;have hm : 0 < m.length := List.length_pos_of_mem hx;simp only [List.length_cons]; omega
theorem Mk {d : Ab} {l : List Spt} (h : Dst l) (hv : ∀ x ∈ l, Val d x) : l.length <= szN d := by
 have := Ni (m := LC d) h fun p hp => by
  obtain ⟨x, hx, rfl⟩ := List.mem_map.1 hp;exact LG _ _ _ (hv x hx)
 rw [List.length_map] at this;exact Nat.le_trans this (LP d)

set_option linter.unusedSimpArgs false
set_option linter.unusedVariables false
set_option maxRecDepth 20000
theorem RM (l m : List Int) : l.isPrefixOf m = (decide (l.length <= m.length) && (l == m.take l.length)) := by
 rw [Bool.eq_iff_iff, List.isPrefixOf_iff_prefix, Bool.and_eq_true, decide_eq_true_eq, beq_iff_eq];exact ⟨fun h => ⟨h.length_le, List.prefix_iff_eq_take.1 h⟩, fun h => List.prefix_iff_eq_take.2 h.2⟩
def N7 (acc : List Spt) (x : Spt) : Bool := match acc.getLast? with
 | none => true
 | some y => !(y.path.isPrefixOf x.path)
def Sc : List Spt -> List Spt -> List Spt
 | acc, [] => acc
 | acc, x :: l => Sc (if N7 acc x = true then acc ++ [x] else acc) l
def Sz (l : List Spt) : List Spt := Sc [] l
theorem Mt : ∀ (l acc : List Spt), (Sc acc l).Sublist (acc ++ l)
 | [], acc => by simp [Sc]
 | x :: l, acc => by
  unfold Sc;split
  ·have := Mt l (acc ++ [x]); simpa using this
  ·exact (Mt l acc).trans ((List.Sublist.refl acc).append (List.sublist_cons_self x l))
theorem LZ (l : List Spt) : (Sz l).Sublist l := Mt l []
def Srt (l : List Spt) : Prop := l.Pairwise fun a b => GW a.path b.path < 0
theorem L0 : ∀ (l acc : List Spt), Srt (acc ++ l) -> (acc.Pairwise fun a b => ¬ a.path <+: b.path) -> (Sc acc l).Pairwise fun a b => ¬ a.path <+: b.path
 | [], acc, _, h => h
 | x :: l, acc, hs, h => by
  unfold Sc;split
  ·rename_i hk;refine L0 l (acc ++ [x]) (by simpa using hs) (List.pairwise_append.2 ⟨h, List.pairwise_singleton _ _, fun a ha b hb => ?_⟩);obtain rfl := List.mem_singleton.1 hb;intro hp;obtain ⟨s1, s2, s3⟩ := List.pairwise_append.1 hs;unfold N7 at hk
   cases hl : acc.getLast? with
   | none => rw [List.getLast?_eq_none_iff] at hl; subst hl; cases ha
   | some y =>
    rw [hl] at hk;obtain ⟨init, rfl⟩ := List.getLast?_eq_some_iff.1 hl;have hny : ¬ y.path <+: b.path := by
     intro h;dsimp only at hk;rw [List.isPrefixOf_iff_prefix.2 h] at hk; cases hk
    rcases List.mem_append.1 ha with ha | ha
    ·have h1 := (List.pairwise_append.1 h).2.2 a ha y (List.mem_singleton.2 rfl);have h2 := (List.pairwise_append.1 s1).2.2 a ha y (List.mem_singleton.2 rfl);have h3 := TI hp h2 h1;have h4 := s3 y (List.mem_append_right _ (List.mem_singleton.2 rfl)) b List.mem_cons_self;have h5 := Iy.anti y.path b.path;omega
    ·obtain rfl := List.mem_singleton.1 ha;exact hny hp
  ·refine L0 l acc (List.Pairwise.sublist ((List.Sublist.refl acc).append (List.sublist_cons_self x l)) hs) h
theorem Sf {l : List Spt} (h : Srt l) : (Sz l).Pairwise Inc := by
 have h1 := L0 l [] (by simpa using h) .nil;have h2 : Srt (Sz l) := List.Pairwise.sublist (LZ l) h;refine (h1.and h2).imp fun {a b} hh => ⟨hh.1, fun hp => ?_⟩
 have := Tk hp;have h3 := Iy.anti a.path b.path;have h4 := hh.2;omega
theorem SA (l : List Spt) (hl : l.length <= 1048576) (hp : ∀ x ∈ l, x.path.length <= 1048576) : Fh l = some (Sz l) := by
 unfold Fh;simp only [letJ]
 obtain ⟨o, e, rfl⟩ := A0 (b := DS l) (fun i s => s.2 = (i : Int) /\ Sc s.1 (l.drop i) = Sz l /\ s.1.length <= i /\ ∀ x ∈ s.1, x ∈ l) (fun o => o = Sz l) l.length (x0 := (([] : List Spt), (0 : Int))) ⟨rfl, rfl, by simp, fun x h => by cases h⟩ (by
  rintro i ⟨acc, _⟩ rec hi ⟨rfl, h1, h2, h3⟩;simp only at h1 h2 h3;rw [List.drop_eq_getElem_cons hi] at h1;unfold Sc at h1;left;have hx := hp _ (List.getElem_mem hi);have go : ∀ b : Bool, b = N7 acc l[i] -> ∃ y, (cond b ((app 128 acc [l[i]]).bind fun _ => rec (acc ++ [l[i]], IntKind.wrap .i64 ((i : Int) + 1))) (rec (acc, IntKind.wrap .i64 ((i : Int) + 1))) : Option (List Ag)) = rec y /\ y.2 = ((i + 1 : Nat) : Int) /\ Sc y.1 (l.drop (i + 1)) = Sz l /\ y.1.length <= i + 1 /\ ∀ x ∈ y.1, x ∈ l := by
   intro b hb;rw [w64 (by omega) (by omega)]
   cases b with
   | true =>
    rw [<- hb, if_pos rfl] at h1;refine ⟨(acc ++ [l[i]], ((i + 1 : Nat) : Int)), ?_, rfl, h1, by simp only [List.length_append, List.length_cons, List.length_nil]; omega, fun x hx => ?_⟩
    ·rw [cond_true, Cy (by simp only [List.length_cons, List.length_nil]; omega) (by simp only [List.length_cons, List.length_nil]; omega), Option.bind_some]; rfl
    ·rcases List.mem_append.1 hx with hx | hx
     ·exact h3 x hx
     ·rw [List.mem_singleton.1 hx]; exact List.getElem_mem hi
   | false =>
    rw [<- hb, if_neg (by simp)] at h1;exact ⟨(acc, ((i + 1 : Nat) : Int)), by rw [cond_false]; rfl, rfl, h1, by simp only; omega, h3⟩
  unfold DS;simp only [letJ];rw [decide_eq_true (by omega), cond_true, AG hi, Option.bind_some]
  cases hl' : acc.getLast? with
  | none =>
   have hk : true = N7 acc l[i] := by unfold N7; rw [hl']
   rw [List.getLast?_eq_none_iff] at hl';subst hl';exact go true hk
  | some y =>
   have hk : (!(y.path.isPrefixOf l[i].path)) = N7 acc l[i] := by unfold N7; rw [hl']
   obtain ⟨init, rfl⟩ := List.getLast?_eq_some_iff.1 hl';have hy := hp y (h3 y (List.mem_append_right _ (List.mem_singleton.2 rfl)));have hlen : (init ++ [y]).length = init.length + 1 := by simp
   have hix : idx (init ++ [y]) (IntKind.wrap .i64 (((init ++ [y]).length : Int) - 1)) = some y := by
    rw [w64 (by omega) (by omega), show ((init ++ [y]).length : Int) - 1 = (init.length : Int) by omega, AG (by omega)];simp
   rw [show (((init ++ [y]).length : Int) == (0 : Int)) = false by rw [hlen]; simp; omega, cond_false, hix, Option.bind_some];rw [RM] at hk;by_cases hlt : l[i].path.length < y.path.length
   ·rw [decide_eq_true (by omega), cond_true];rw [decide_eq_false (by omega), Bool.false_and, Bool.not_false] at hk;exact go true hk
   ·rw [decide_eq_false (by omega), cond_false];simp only [Option.bind_some];rw [S9 (by omega)];simp only [Option.bind_some];rw [XI _ _ (by omega)];simp only [Option.bind_some];rw [decide_eq_true (by omega), Bool.true_and] at hk
    exact go _ hk) (by
  rintro ⟨acc, _⟩ rec ⟨rfl, h1, h2, h3⟩;simp only at h1;rw [List.drop_length] at h1;refine ⟨_, ?_, h1⟩;unfold DS;dsimp only
  rw [decide_eq_false (by omega), cond_false]; rfl) (n := FUEL) (by unfold FUEL; omega)
 rw [e]; rfl
theorem Ri {T : Type} {cf : T -> T -> Int} : ∀ {l : List T}, (l.Pairwise fun a b => cf a b ≠ 0) -> Th cf l = true
 | [], _ => rfl
 | x :: l, h => by
  obtain ⟨h1, h2⟩ := List.pairwise_cons.1 h;simp only [Th, Bool.and_eq_true, List.all_eq_true, bne_iff_ne];exact ⟨h1, Ri h2⟩
structure InvS (d : Ab) (l : List Spt) : Prop where
 s : Srt l
 v : ∀ x ∈ l, Val d x
theorem InvS.dst {d : Ab} {l : List Spt} (h : InvS d l) : Dst l := by
 unfold Dst List.Nodup;rw [List.pairwise_map];refine h.s.imp fun {a b} hh e => ?_;rw [e, Iy.refl] at hh; omega
theorem Val.len {d : Ab} {x : Spt} (h : Val d x) : x.path.length + szN x.node <= szN d := QJ _ _ _ h
theorem Uf {d : Ab} {l : List Spt} (hs : szN d <= 1048576) (hd : Dst l) (hv : ∀ x ∈ l, Val d x) : NB HU Fj l = some (JB Fj l) /\ InvS d (JB Fj l) := by
 have hap : Th Fj l = true := Ri (by
  unfold Dst List.Nodup at hd;rw [List.pairwise_map] at hd;refine hd.imp fun {a b} h e => h ?_;unfold Fj at e;rw [Rl] at e
  exact M4 e)
 have hg : l.all HU = true := List.all_eq_true.2 fun x hx => by
  have := (hv x hx).len;unfold HU;rw [decide_eq_true_eq]; omega
 have hl := Mk hd hv;obtain ⟨p1, p2⟩ := Kc (cf := Fj) (fun x y => EB _ _) Ra hap;refine ⟨?_, ⟨p2.imp fun {a b} h => ?_, fun x hx => hv x (p1.subset hx)⟩⟩
 ·unfold NB;rw [hap, hg, decide_eq_true (by omega)]; rfl
 ·unfold Fj at h;rw [Rl] at h;exact h
def stF (st : Ak) (s : Spt) : List Spt := if st.deep then Gb st FUEL s else ofP st s
def stL (st : Ak) (l : List Spt) : List Spt := if st.deep then Sz l else l
def NR (st : Ak) (l : List Spt) : List Spt := JB Fj ((stL st l).flatMap (stF st))
theorem Re {st : Ak} {s x : Spt} (h : x ∈ stF st s) : Blw s x := by
 unfold stF at h;split at h
 ·exact It st FUEL s x h
 ·exact Tn h
theorem Uj (st : Ak) (s : Spt) : Dst (stF st s) := by
 unfold stF;split
 ·exact M5 st FUEL s
 ·exact QP st s
theorem QN {st : Ak} : ∀ (L : List Spt), Dst L -> Dst (L.flatMap (ofP st))
 | [], _ => List.nodup_nil
 | s :: L, h => by
  obtain ⟨h1, h2⟩ := List.nodup_cons.1 h;unfold Dst;rw [List.flatMap_cons, List.map_append];refine List.nodup_append.2 ⟨QP st s, QN L h2, ?_⟩;intro p hp q hq e;subst e;obtain ⟨x, hx, rfl⟩ := List.mem_map.1 hp;obtain ⟨y, hy, e⟩ := List.mem_map.1 hq;obtain ⟨t, ht, hy⟩ := List.mem_flatMap.1 hy;obtain ⟨j, _, rfl⟩ := D9 ((If st s).subset hx);obtain ⟨i, _, rfl⟩ := D9 ((If st t).subset hy);have := List.append_inj_left' e rfl;exact h1 (List.mem_map.2 ⟨t, ht, this⟩)
theorem N5 {d : Ab} (st : Ak) {l : List Spt} (h : InvS d l) : Dst ((stL st l).flatMap (stF st)) /\ ∀ x ∈ (stL st l).flatMap (stF st), Val d x := by
 have hsub : (stL st l).Sublist l := by
  unfold stL;split
  ·exact LZ l
  ·exact .refl _
 refine ⟨?_, fun x hx => ?_⟩
 ·cases hd : st.deep with
  | true =>
   have e1 : stL st l = Sz l := by unfold stL; rw [hd]; rfl
   rw [e1];exact L7 _ (fun s _ x hx => Re hx) (fun s _ => Uj st s) (Sf h.s)
  | false =>
   have e1 : stL st l = l := by unfold stL; rw [hd]; rfl
   have e2 : stF st = ofP st := by funext s; unfold stF; rw [hd]; rfl
   rw [e1, e2];exact QN l h.dst
 ·obtain ⟨s, hs, hx⟩ := List.mem_flatMap.1 hx;exact (Re hx).val (h.v s (hsub.subset hs))
theorem LS {d : Ab} (hs : szN d <= 1048576) (st : Ak) {l : List Spt} (h : InvS d l) : NB HU Fj ((stL st l).flatMap (stF st)) = some (NR st l) /\ InvS d (NR st l) :=
 Uf hs (N5 st h).1 (N5 st h).2

set_option linter.unusedSimpArgs false
set_option linter.unusedVariables false
set_option maxRecDepth 20000
def UW (st : Ak) (a : Ah) : Bool := (st.test == ([42] : List UInt8)) || ((a.Name.URI == st.name.URI) && ((a.Name.Local == st.name.Local) && true))
def P7 (st : Ak) (s : Spt) : List An := (s.node.Attrs.filter (UW st)).map fun a => ⟨s.path, true, a.Name⟩
theorem O8 (st : Ak) (s : Spt) : (P7 st s).length <= s.node.Attrs.length := by
 unfold P7; rw [List.length_map]; exact List.length_filter_le _ _
theorem L8 {α β : Type} (f : α -> List β) (B : Nat) : ∀ l : List α, (∀ x ∈ l, (f x).length <= B) -> (l.flatMap f).length <= l.length * B
 | [], _ => by simp
 | x :: l, h => by
  have h1 := h x List.mem_cons_self;have h2 := L8 f B l fun y hy => h y (List.mem_cons_of_mem _ hy);rw [List.flatMap_cons, List.length_append, List.length_cons, Nat.succ_mul];omega
theorem SY (st : Ak) (s : Spt) (acc : List An) (hp : s.path.length <= 1048576) (hA : s.node.Attrs.length <= 1048576) (ha : acc.length <= 1099511627776) :
  iter (Db st s) FUEL (acc, (0 : Int)) = some (acc ++ P7 st s) := by
 obtain ⟨o, e, rfl⟩ := A0 (b := Db st s) (fun i x => x = (acc ++ ((s.node.Attrs.take i).filter (UW st)).map (fun a => (⟨s.path, true, a.Name⟩ : An)), (i : Int))) (fun o => o = acc ++ P7 st s) s.node.Attrs.length (x0 := (acc, (0 : Int))) (by simp) (by
  rintro i _ rec hi rfl;left;have hlen : (((s.node.Attrs.take i).filter (UW st)).map (fun a => (⟨s.path, true, a.Name⟩ : An))).length <= 1048576 := by
   rw [List.length_map];have := List.length_filter_le (UW st) (s.node.Attrs.take i);rw [List.length_take] at this; omega
  refine ⟨_, ?_, rfl⟩;unfold Db;simp only [letJ];rw [decide_eq_true (by omega), cond_true, AG hi, Option.bind_some, w64 (by omega) (by omega), List.take_succ_eq_append_getElem hi, List.filter_append, List.map_append];generalize hA' : ((s.node.Attrs.take i).filter (UW st)).map (fun a => (⟨s.path, true, a.Name⟩ : An)) = A at hlen ⊢;show (cond (UW st s.node.Attrs[i]) _ _ : Option _) = _
  cases hf : UW st s.node.Attrs[i] with
  | false => rw [cond_false]; simp [hf]
  | true =>
   have hcl : L_CloneInts s.path = some s.path := by unfold L_CloneInts; rw [if_pos (by omega)]
   rw [cond_true, hcl, Option.bind_some, Cy (by simp only [List.length_append, List.length_cons, List.length_nil]; omega) (by simp only [List.length_append, List.length_cons, List.length_nil]; omega), Option.bind_some]
   simp [hf]) (by
  rintro _ rec rfl;refine ⟨_, ?_, rfl⟩;unfold Db;dsimp only
  rw [decide_eq_false (by omega), cond_false, List.take_length]; rfl) (n := FUEL) (by unfold FUEL; omega)
 exact e
def Sd (st : Ak) (l : List Spt) : List An := l.flatMap (P7 st)
theorem Su (st : Ak) (l : List Spt) (hl : l.length <= 1048576) (hx : ∀ x ∈ l, x.path.length <= 1048576 /\ x.node.Attrs.length <= 1048576) : Fb l st = some (Sd st l) := by
 unfold Fb;simp only [letJ]
 obtain ⟨o, e, rfl⟩ := A0 (b := DG l st) (fun i x => x = ((l.take i).flatMap (P7 st), (i : Int))) (fun o => o = Sd st l) l.length (x0 := (([] : List An), (0 : Int))) rfl (by
  rintro i _ rec hi rfl;left;obtain ⟨h1, h2⟩ := hx _ (List.getElem_mem hi);have hlen : ((l.take i).flatMap (P7 st)).length <= 1099511627776 := by
   have h := L8 (P7 st) 1048576 (l.take i) fun x hx' => Nat.le_trans (O8 st x) (hx x (List.mem_of_mem_take hx')).2;have h3 : (l.take i).length * 1048576 <= 1048576 * 1048576 := Nat.mul_le_mul_right _ (by rw [List.length_take]; omega);omega
  refine ⟨_, ?_, rfl⟩;unfold DG;simp only [letJ];rw [decide_eq_true (by omega), cond_true, AG hi, Option.bind_some, w64 (by omega) (by omega), SY st _ _ h1 h2 hlen, Option.bind_some, List.take_succ_eq_append_getElem hi, List.flatMap_append]
  simp) (by
  rintro _ rec rfl;refine ⟨_, ?_, rfl⟩;unfold DG;dsimp only
  rw [decide_eq_false (by omega), cond_false, List.take_length]; rfl) (n := FUEL) (by unfold FUEL; omega)
 rw [e]; rfl
def trS (s : Spt) : An := ⟨s.path, false, ⟨[], []⟩⟩
def IM : List Ak -> List Spt -> List An
 | [], l => l.map trS
 | st :: r, l => if st.attr then Sd st l else IM r (NR st l)
def OkS (N : Nat) (st : Ak) : Prop := (∀ c ∈ st.conds, OkC c N) /\ st.conds.length <= 1073741824
theorem UO {d : Ab} {st : Ak} {l : List Spt} (hs : szN d <= 1048576) (hok : OkS (szN d) st) (h : InvS d l) : iter (Ds st (stL st l)) FUEL (([] : List Spt), (0 : Int)) = some ((stL st l).flatMap (stF st)) := by
 obtain ⟨hd, hv⟩ := N5 st h;have hsub : (stL st l).Sublist l := by
  unfold stL;split
  ·exact LZ l
  ·exact .refl _
 have hll := Mk h.dst h.v;have hLl := hsub.length_le;generalize hL : stL st l = L at hd hv hsub hLl ⊢
 obtain ⟨o, e, rfl⟩ := A0 (b := Ds st L) (fun i x => x = ((L.take i).flatMap (stF st), (i : Int))) (fun o => o = L.flatMap (stF st)) L.length (x0 := (([] : List Spt), (0 : Int))) rfl (by
  rintro i _ rec hi rfl;left;have hval := h.v _ (hsub.subset (List.getElem_mem hi));have hvl := hval.len;have hlen : ((L.take i).flatMap (stF st)).length + (stF st L[i]).length <= 1048576 := by
   have e1 : (L.take (i + 1)).flatMap (stF st) = (L.take i).flatMap (stF st) ++ stF st L[i] := by
    rw [List.take_succ_eq_append_getElem hi, List.flatMap_append]; simp
   have e2 : ((L.take (i + 1)).flatMap (stF st)).Sublist (L.flatMap (stF st)) := by
    conv => rhs; rw [<- List.take_append_drop (i + 1) L, List.flatMap_append]
    exact List.sublist_append_left _ _
   have := Mk (hd.sub e2) (fun x hx => hv x (e2.subset hx));rw [e1, List.length_append] at this;omega
  have key : ∃ r, (cond st.deep (EQ st L[i]) (CD st L[i])) = some r /\ r = stF st L[i] := by
   cases hdp : st.deep with
   | true =>
    rw [cond_true];refine ⟨_, Rh (N := szN d) (by omega) hok.1 hok.2 FUEL L[i] (by unfold FUEL; omega) (by omega) (by omega), ?_⟩;unfold stF; rw [hdp]; rfl
   | false =>
    rw [cond_false];refine ⟨_, VV (N := szN d) st L[i] (by omega) (by omega) (by omega) hok.1 hok.2, ?_⟩;unfold stF; rw [hdp]; rfl
  obtain ⟨r, hr, hr2⟩ := key;refine ⟨((L.take (i + 1)).flatMap (stF st), ((i + 1 : Nat) : Int)), ?_, rfl⟩;have e1 : (L.take (i + 1)).flatMap (stF st) = (L.take i).flatMap (stF st) ++ stF st L[i] := by
   rw [List.take_succ_eq_append_getElem hi, List.flatMap_append]; simp
  rw [e1, <- hr2];rw [<- hr2] at hlen;unfold Ds;simp only [letJ];rw [decide_eq_true (by omega), cond_true, AG hi, Option.bind_some, w64 (by omega) (by omega)]
  cases hdp : st.deep with
  | true =>
   rw [hdp, cond_true] at hr;rw [cond_true, hr, Option.bind_some, Cy (by omega) (by omega), Option.bind_some, Option.bind_some]; rfl
  | false =>
   rw [hdp, cond_false] at hr
   rw [cond_false, hr, Option.bind_some, Cy (by omega) (by omega), Option.bind_some, Option.bind_some]; rfl) (by
  rintro _ rec rfl;refine ⟨_, ?_, rfl⟩;unfold Ds;dsimp only
  rw [decide_eq_false (by omega), cond_false, List.take_length]) (n := FUEL) (by unfold FUEL; omega)
 exact e
theorem U2 (l : List Spt) (hl : l.length <= 1048576) : iter (Dv l) FUEL (([] : List An), (0 : Int)) = some (l.map trS) := by
 obtain ⟨o, e, rfl⟩ := A0 (b := Dv l) (fun i x => x = ((l.take i).map trS, (i : Int))) (fun o => o = l.map trS) l.length (x0 := (([] : List An), (0 : Int))) rfl (by
  rintro i _ rec hi rfl;left;have hlen : ((l.take i).map trS).length <= 1048576 := by rw [List.length_map, List.length_take]; omega
  refine ⟨_, ?_, rfl⟩;unfold Dv;dsimp only;rw [decide_eq_true (by omega), cond_true, AG hi, Option.bind_some, w64 (by omega) (by omega), Cy (by simp only [List.length_cons, List.length_nil]; omega) (by simp only [List.length_cons, List.length_nil]; omega), Option.bind_some, List.take_succ_eq_append_getElem hi, List.map_append]
  rfl) (by
  rintro _ rec rfl;refine ⟨_, ?_, rfl⟩;unfold Dv;dsimp only
  rw [decide_eq_false (by omega), cond_false, List.take_length]) (n := FUEL) (by unfold FUEL; omega)
 exact e
theorem InvS.bnd {d : Ab} {l : List Spt} (hs : szN d <= 1048576) (h : InvS d l) : l.length <= 1048576 /\ ∀ x ∈ l, x.path.length <= 1048576 /\ x.node.Attrs.length <= 1048576 := by
 refine ⟨Nat.le_trans (Mk h.dst h.v) hs, fun x hx => ?_⟩;have h1 := (h.v x hx).len;have h2 := Ff x.node;exact ⟨by omega, by omega⟩
def Q0 : List Ak -> List Spt -> List Spt
 | [], l => l
 | st :: r, l => Q0 r (NR st l)
theorem US {d : Ab} (hs : szN d <= 1048576) (x : List Ak × Int × Int) (hx : ∀ st ∈ x.1, OkS (szN d) st) (hlen : x.1.length <= 1048576) :
  ∃ o, iter (Du x) FUEL ([(⟨([] : List Int), d⟩ : Ag)], (0 : Int)) = some o /\ (match o with | .inl l => InvS d l /\ IM x.1 [⟨[], d⟩] = l.map trS | .inr t => t = (IM x.1 [⟨[], d⟩], 0, 0)) := by
 refine A0 (b := Du x) (fun i y => y.2 = (i : Int) /\ InvS d y.1 /\ IM x.1 [⟨[], d⟩] = IM (x.1.drop i) y.1) _ x.1.length (x0 := ([(⟨([] : List Int), d⟩ : Ag)], (0 : Int))) ⟨rfl, ⟨List.pairwise_singleton _ _, fun y hy => ?_⟩, rfl⟩ ?_ ?_ (n := FUEL) (by unfold FUEL; omega)
 ·rw [List.mem_singleton.1 hy]; rfl
 ·rintro i ⟨l, _⟩ rec hi ⟨rfl, hI, hp⟩;simp only at hI hp;obtain ⟨b1, b2⟩ := hI.bnd hs;have hok := hx _ (List.getElem_mem hi);rw [List.drop_eq_getElem_cons hi] at hp;unfold Du;simp only [letJ];rw [decide_eq_true (by omega), cond_true, AG hi, Option.bind_some, w64 (by omega) (by omega)];rw [show ∀ (st : Ak) (r : List Ak), IM (st :: r) l = if st.attr then Sd st l else IM r (NR st l) from fun _ _ => rfl] at hp
  cases ha : x.1[i].attr with
  | true =>
   right;rw [ha, if_pos rfl] at hp;rw [cond_true, Su _ _ b1 b2, Option.bind_some];exact ⟨_, rfl, by rw [hp]⟩
  | false =>
   left;rw [ha, if_neg (by simp)] at hp;obtain ⟨s1, s2⟩ := LS hs x.1[i] hI;have hl1 := UO hs hok hI;have hout := SA l b1 fun y hy => (b2 y hy).1;refine ⟨(NR x.1[i] l, ((i + 1 : Nat) : Int)), ?_, rfl, s2, hp⟩;rw [cond_false];unfold stL at s1 hl1
   cases hd : x.1[i].deep with
   | true =>
    rw [hd, if_pos rfl] at s1 hl1;rw [cond_true, hout, Option.bind_some, hl1, Option.bind_some, s1, Option.bind_some]; rfl
   | false =>
    rw [hd, if_neg (by simp)] at s1 hl1;rw [cond_false, hl1, Option.bind_some, s1, Option.bind_some]; rfl
 ·rintro ⟨l, _⟩ rec ⟨rfl, hI, hp⟩;simp only at hI hp;rw [List.drop_length] at hp;refine ⟨.inl l, ?_, hI, hp⟩;unfold Du;dsimp only;rw [decide_eq_false (by omega), cond_false]
theorem Ur {d : Ab} (hs : szN d <= 1048576) (q : List UInt8) (x : List Ak × Int × Int) (hr : Dg q = some x) (hx : ∀ st ∈ x.1, OkS (szN d) st) (hlen : x.1.length <= 1048576) :
  Eg d q = some (if x.2.2 ≠ 0 then ([], x.2.1, x.2.2) else if DR d = some 0 then (IM x.1 [⟨[], d⟩], 0, 0) else ([], 0, (DR d).getD 0)) := by
 unfold Eg;rw [hr, Option.bind_some];by_cases h0 : x.2.2 = 0
 ·rw [show (x.2.2 != (0 : Int)) = false by simp [h0], cond_false, if_neg (by simpa using h0)];obtain ⟨r, hc, _⟩ := Ly d hs;rw [hc, Option.bind_some];by_cases hr0 : r = 0
  ·subst hr0;rw [show ((0 : Int) != (0 : Int)) = false by simp, cond_false, if_pos rfl];simp only [letJ];obtain ⟨o, e, ho⟩ := US hs x hx hlen;rw [e, Option.bind_some]
   cases o with
   | inr t => simp only at ho ⊢; rw [ho]
   | inl l =>
    obtain ⟨hI, hp⟩ := ho;simp only;rw [U2 l (hI.bnd hs).1, Option.bind_some, hp]
  ·rw [show (r != (0 : Int)) = true by simpa using hr0, cond_true, if_neg (by simpa using hr0)]; rfl
 ·rw [show (x.2.2 != (0 : Int)) = true by simpa using h0, cond_true, if_pos h0]

set_option linter.unusedSimpArgs false
set_option linter.unusedVariables false
set_option maxRecDepth 20000
theorem Na {y : Ab} : ∀ {l : List Ab} {x : Ab}, x ∈ l -> y ∈ DW x -> y ∈ EI l
 | [], x, h, _ => by cases h
 | z :: l, x, h, hy => by
  simp only [EI, List.mem_append];rcases List.mem_cons.1 h with rfl | h
  ·exact .inl hy
  ·exact .inr (Na h hy)
theorem Po : ∀ (p : List Int) (x y : Ab), atP x p = some y -> y ∈ DW x
 | [], x, y, h => by
  simp only [atP, Option.some.injEq] at h; subst h;rw [IA]; exact List.mem_cons_self
 | s :: r, x, y, h => by
  simp only [atP] at h;split at h
  ·cases h
  ·obtain ⟨z, hz, h2⟩ := Option.bind_eq_some_iff.1 h;rw [IA];exact List.mem_cons_of_mem _ (Na (List.mem_of_getElem? hz) (Po r z y h2))
theorem MT : ∀ {l : List Ah}, RiseA l -> l.Pairwise fun a b => NY a.Name b.Name < 0
 | [], _ => .nil
 | x :: l, h => by
  have hl : RiseA l := fun i hi => h (i + 1) (by simpa using hi);have ih := MT hl;refine .cons (fun y hy => ?_) ih
  cases l with
  | nil => cases hy
  | cons z l =>
   have h0 := h 0 (by simp);simp only [List.getElem_cons_zero, List.getElem_cons_succ] at h0;rcases List.mem_cons.1 hy with rfl | hy
   ·exact h0
   ·have h1 := (List.pairwise_cons.1 ih).1 y hy;have hc := MZ;have t := hc.trans x.Name z.Name y.Name (by omega) (by omega);rcases Int.lt_or_eq_of_le t with t | t
    ·exact t
    ·exfalso;have e := hc.eqL z.Name t;have := hc.anti x.Name z.Name;have := hc.anti z.Name y.Name;omega
structure Stand (d : Ab) (l : List An) : Prop where
 s : l.Pairwise fun a b => Ji a b < 0
 v : ∀ t ∈ l, (NF d t).2 = 0 /\ t.Steps.length <= 1048576
theorem Pe {a b : An} (h : GW a.Steps b.Steps < 0) : Ji a b < 0 := by
 unfold Ji; rw [if_pos (by omega)]; exact h
theorem SG {d : Ab} (hs : szN d <= 1048576) {l : List Spt} (h : InvS d l) : Stand d (l.map trS) := by
 refine ⟨?_, fun t ht => ?_⟩
 ·rw [List.pairwise_map];have hs' : l.Pairwise fun a b => GW a.path b.path < 0 := h.s;refine hs'.imp ?_;intro a b hh;exact Pe (a := trS a) (b := trS b) hh
 ·obtain ⟨s, hm, rfl⟩ := List.mem_map.1 ht;have hv := h.v s hm;have hl := hv.len;refine ⟨?_, by show s.path.length <= _; omega⟩;unfold NF;rw [show (trS s).Steps = s.path from rfl, show atP d s.path = some s.node from hv];simp only [trS, Bool.false_eq_true, if_false];split <;> rfl
theorem Pf {n : Aa} : ∀ {l : List Ah} {a : Ah}, a ∈ l -> a.Name = n -> ∃ v, K6 2 n l = some v
 | [], a, h, _ => by cases h
 | b :: l, a, h, e => by
  unfold K6;split
  ·exact ⟨_, rfl⟩
  ·rename_i hb;rcases List.mem_cons.1 h with rfl | h
   ·subst e;simp at hb
   ·exact Pf h e
theorem RH {d : Ab} (hs : szN d <= 1048576) (hg : GoodT d) (st : Ak) {l : List Spt} (h : InvS d l) : Stand d (Sd st l) := by
 have hin : ∀ s ∈ l, s.node ∈ DW d := fun s hm => Po _ _ _ (h.v s hm);refine ⟨?_, fun t ht => ?_⟩
 ·have hI := h.s;have hv := h.v;clear h
  induction l with
  | nil => exact .nil
  | cons s l ih =>
   obtain ⟨h1, h2⟩ := List.pairwise_cons.1 hI;unfold Sd;rw [List.flatMap_cons];refine List.pairwise_append.2 ⟨?_, ih (fun x hx => hin x (List.mem_cons_of_mem _ hx)) h2 (fun x hx => hv x (List.mem_cons_of_mem _ hx)), ?_⟩
   ·unfold P7;rw [List.pairwise_map];refine ((MT (hg.up _ (hin s List.mem_cons_self))).sublist List.filter_sublist).imp fun {a b} hh => ?_;unfold Ji Ol;simp only [Iy.refl, ne_eq, not_true_eq_false, if_false, Bool.and_self, if_true];exact hh
   ·intro a ha b hb;unfold P7 at ha;obtain ⟨x, _, rfl⟩ := List.mem_map.1 ha;obtain ⟨t, ht, hb⟩ := List.mem_flatMap.1 hb;unfold P7 at hb;obtain ⟨y, _, rfl⟩ := List.mem_map.1 hb;exact Pe (h1 t ht)
 ·obtain ⟨s, hm, ht⟩ := List.mem_flatMap.1 ht;unfold P7 at ht;obtain ⟨a, ha, rfl⟩ := List.mem_map.1 ht;have hv := h.v s hm;have hl := hv.len;refine ⟨?_, by show s.path.length <= _; omega⟩;have ha' := (List.mem_filter.1 ha).1;have hk : s.node.Kind = 2 := by
   refine Classical.byContradiction fun hk => ?_;rw [hg.el _ (hin s hm) hk] at ha'; cases ha'
  obtain ⟨v, hv2⟩ := Pf (n := a.Name) ha' rfl;unfold NF;simp only [];rw [show atP d s.path = some s.node from hv];simp only [hk, hv2, if_true]
theorem Lv {d : Ab} (hs : szN d <= 1048576) (hg : GoodT d) : ∀ (r : List Ak) (l : List Spt), InvS d l -> Stand d (IM r l)
 | [], l, h => SG hs h
 | st :: r, l, h => by
  rw [show IM (st :: r) l = if st.attr then Sd st l else IM r (NR st l) from rfl];split
  ·exact RH hs hg st h
  ·exact Lv hs hg r _ (LS hs st h).2
theorem O2 (d : Ab) : InvS d [⟨[], d⟩] := ⟨List.pairwise_singleton _ _, fun y hy => by rw [List.mem_singleton.1 hy]; rfl⟩
structure RdOk (N : Nat) (q : List UInt8) (x : List Ak × Int × Int) : Prop where
 r : Dg q = some x
 e : x.2.2 ≠ 0 -> 0 <= x.2.1 /\ x.2.1 <= q.length
 st : ∀ st ∈ x.1, OkS N st
 l : x.1.length <= 1048576
theorem Ov {d : Ab} (hs : szN d <= 1048576) {l : List An} (h : Stand d l) (hl : l.length <= 4398046511104) : iter (Bf d (l, 0, 0)) FUEL (0 : Int) = some (.inl ()) := by
 obtain ⟨o, e, rfl⟩ := A0 (b := Bf d (l, 0, 0)) (fun i x => x = (i : Int)) (fun o => o = .inl ()) l.length (x0 := (0 : Int)) rfl (by
  rintro i _ rec hi rfl;left;refine ⟨((i + 1 : Nat) : Int), ?_, rfl⟩;obtain ⟨v1, v2⟩ := h.v _ (List.getElem_mem hi);unfold Bf;simp only [letJ];rw [decide_eq_true (by omega), cond_true, AG hi, Option.bind_some, Uz d l[i] hs (by omega), Option.bind_some, v1, show ((0 : Int) != (0 : Int)) = false from rfl, cond_false, w64 (x := (i : Int) + 1) (by omega) (by omega)];by_cases h0 : i = 0
  ·subst h0; rfl
  ·obtain ⟨j, rfl⟩ : ∃ j, i = j + 1 := ⟨i - 1, by omega⟩
   have hj : j < l.length := by omega
   have hlt := List.pairwise_iff_getElem.1 h.s j (j + 1) hj hi (by omega);have hr := PW.rng l[j] l[j + 1];have hm : Ji l[j] l[j + 1] = -1 := by omega
   have v3 := (h.v _ (List.getElem_mem hj)).2;rw [decide_eq_true (by omega), cond_true, w64 (by omega) (by omega), show ((j + 1 : Nat) : Int) - 1 = (j : Int) by omega, AG hj, Option.bind_some, V2 _ _ (by omega) (by omega), Option.bind_some, hm]
   rfl) (by
  rintro _ rec rfl;refine ⟨_, ?_, rfl⟩;unfold Bf;dsimp only
  rw [decide_eq_false (by omega), cond_false]) (n := FUEL) (by unfold FUEL; omega)
 exact e
theorem T8 {d : Ab} (hs : szN d <= 1048576) (st : Ak) {l : List Spt} (h : InvS d l) : (Sd st l).length <= 4398046511104 := by
 obtain ⟨b1, b2⟩ := h.bnd hs;have h1 := L8 (P7 st) 1048576 l fun x hx => Nat.le_trans (O8 st x) (b2 x hx).2;have h3 : l.length * 1048576 <= 1048576 * 1048576 := Nat.mul_le_mul_right _ b1;unfold Sd;omega
theorem Pn {d : Ab} (hs : szN d <= 1048576) : ∀ (r : List Ak) (l : List Spt), InvS d l -> (IM r l).length <= 4398046511104
 | [], l, h => by
  have := (h.bnd hs).1;show (l.map trS).length <= _;rw [List.length_map]; omega
 | st :: r, l, h => by
  rw [show IM (st :: r) l = if st.attr then Sd st l else IM r (NR st l) from rfl];split
  ·exact T8 hs st h
  ·exact Pn hs r _ (LS hs st h).2
theorem pickStands {d : Ab} (hs : szN d <= 1048576) (q : List UInt8) {x : List Ak × Int × Int} (hR : RdOk (szN d) q x) : BF d q = some true := by
 unfold BF;rw [Ua, Option.bind_some, Bool.not_true, cond_false, Ur hs q x hR.r hR.st hR.l, Option.bind_some];by_cases h0 : x.2.2 = 0
 ·rw [if_neg (by simpa using h0)];obtain ⟨r, hc, hg⟩ := Ly d hs;by_cases hr : r = 0
  ·subst hr;rw [if_pos hc];simp only [letJ];rw [show ((0 : Int) != (0 : Int)) = false from rfl, cond_false, Ov hs (Lv hs (hg rfl) _ _ (O2 d)) (Pn hs _ _ (O2 d))];rfl
  ·rw [hc, if_neg (by simpa using hr)];simp only [Option.getD_some];rw [show (r != (0 : Int)) = true by simpa using hr, cond_true];simp
 ·rw [if_pos h0];obtain ⟨e1, e2⟩ := hR.e h0;simp only;rw [show (x.2.2 != (0 : Int)) = true by simpa using h0, cond_true];simp [e1, e2]
end Go.Proofs.YtmnbjcpikllknaaGreatDoor
