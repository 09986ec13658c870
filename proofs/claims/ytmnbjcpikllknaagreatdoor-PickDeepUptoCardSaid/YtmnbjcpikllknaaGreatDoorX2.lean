/- A step's answer, said plainly. No condition. -/
import Derived.Test.YtmnbjcpikllknaaGreatDoorX1
import Derived.Test.YtmnbjcpikllknaaGreatDoorXR
set_option linter.unusedSimpArgs false
set_option linter.unusedVariables false
set_option maxRecDepth 20000
namespace Go.Proofs.YtmnbjcpikllknaaGreatDoor
abbrev Spt := Ah
theorem Ac0 {l : List Spt} {f : Spt -> Option Bool} (hl : l.length <= 1073741824) (h : ∀ x ∈ l, ∃ b, f x = some b) : (AV l f = some (-1) /\ l.any (gB f) = false) \/
  ∃ i, ∃ hi : i < l.length, AV l f = some (i : Int) /\ gB f l[i] = true /\ (l.take i).any (gB f) = false := by
 unfold AV;simp only [letJ]
 obtain ⟨o, e, hR⟩ := AU (b := A6 l f) (fun i s => s = (i : Int) /\ (l.take i).any (gB f) = false) (fun o => match o with | .inl _ => l.any (gB f) = false | .inr z => ∃ i, ∃ hi : i < l.length, z = (i : Int) /\ gB f l[i] = true /\ (l.take i).any (gB f) = false) l.length (x0 := (0 : Int)) ⟨rfl, rfl⟩ (by
  rintro i _ rec hi ⟨rfl, ha⟩;obtain ⟨b, hb⟩ := h _ (bm hi);have hg : gB f l[i] = b := by simp [gB, hb]
  unfold A6;rw [bf (by omega), bb, AE hi, ba, hb, ba]
  cases b with
  | true => exact .inr ⟨_, rfl, i, hi, rfl, hg, ha⟩
  | false =>
   refine .inl ⟨((i + 1 : Nat) : Int), ?_, rfl, ?_⟩
   ·rw [bc, w64 (by omega) (by omega)]; rfl
   ·rw [List.take_succ_eq_append_getElem hi, List.any_append, ha, List.any_cons, hg]; rfl) (by
  rintro _ rec ⟨rfl, ha⟩;refine ⟨.inl (), ?_, ?_⟩
  ·unfold A6;rw [bg (by omega), bc]
  ·rw [List.take_length] at ha; exact ha) (n := FUEL) (by unfold FUEL; omega)
 rw [e, ba]
 cases o with
 | inl u => exact .inl ⟨rfl, hR⟩
 | inr z => obtain ⟨i, hi, rfl, h1, h2⟩ := hR; exact .inr ⟨i, hi, rfl, h1, h2⟩
theorem MV {α : Type} {l : List α} {p : α -> Bool} (h : l.any p = false) : l.filter (fun x => !p x) = l :=
 List.filter_eq_self.2 fun x hx => by have := List.any_eq_false.1 h x hx; simpa using this
theorem X5 {l : List Spt} {f : Spt -> Option Bool} (hl : l.length <= 1073741824) (h : ∀ x ∈ l, ∃ b, f x = some b) : Ba l f = some (l.filter fun x => !gB f x) := by
 unfold Ba;simp only [letJ];rcases Ac0 hl h with ⟨e, ha⟩ | ⟨i, hi, e, hg, ha⟩
 ·rw [e, ba, MV ha]; rfl
 rw [e, ba, show ((i : Int) == (-1 : Int)) = false by simp, bc, w64 (by omega) (by omega)];obtain ⟨o, e, hR⟩ := AU (b := A4 f)
  (fun m s => s.2.2 = ((i + 1 + m : Nat) : Int) /\ s.1.length = l.length /\ s.2.1 = (((l.take (i + 1 + m)).filter fun x => !gB f x).length : Int) /\ ((l.take (i + 1 + m)).filter fun x => !gB f x).length < i + 1 + m /\
   s.1.take ((l.take (i + 1 + m)).filter fun x => !gB f x).length = (l.take (i + 1 + m)).filter (fun x => !gB f x) /\ s.1.drop (i + 1 + m) = l.drop (i + 1 + m))
  (fun o => o.1.length = l.length /\ o.2 = ((l.filter fun x => !gB f x).length : Int) /\ (l.filter fun x => !gB f x).length < l.length /\ o.1.take (l.filter fun x => !gB f x).length = l.filter fun x => !gB f x) (l.length - (i + 1)) (x0 := (l, (i : Int), (i : Int) + 1)) (by
   have e1 : ((l.take (i + 1)).filter fun x => !gB f x) = l.take i := by
    rw [List.take_succ_eq_append_getElem hi, List.filter_append, MV ha];simp [hg]
   have e2 : (l.take i).length = i := by rw [List.length_take]; omega
   refine ⟨by simp, rfl, ?_, ?_, ?_, rfl⟩
   ·simp only [Nat.add_zero]; rw [e1, e2]
   ·simp only [Nat.add_zero]; rw [e1, e2]; omega
   ·simp only [Nat.add_zero]; rw [e1, e2]) (by
   rintro m ⟨a, p, j⟩ rec hm ⟨h1, h2, h3, h4, h5, h6⟩;simp only at h1 h2 h3 h5 h6;subst h1 h3;have hj : i + 1 + m < l.length := by omega
   have hja : i + 1 + m < a.length := by omega
   have hx : a[i + 1 + m] = l[i + 1 + m] := by
    have := congrArg (fun z => z[0]?) h6;simp only [List.getElem?_drop, Nat.add_zero, List.getElem?_eq_getElem hja, List.getElem?_eq_getElem hj] at this;exact Option.some.inj this
   obtain ⟨b, hb⟩ := h _ (bm hj);have hg' : gB f l[i + 1 + m] = b := by simp [gB, hb]
   have et : (l.take (i + 1 + (m + 1))).filter (fun x => !gB f x) = (l.take (i + 1 + m)).filter (fun x => !gB f x) ++ (if b then [] else [l[i + 1 + m]]) := by
    rw [show i + 1 + (m + 1) = (i + 1 + m) + 1 by omega, List.take_succ_eq_append_getElem hj, List.filter_append];congr 1;cases b <;> simp [hg']
   generalize hF : (l.take (i + 1 + m)).filter (fun x => !gB f x) = F at h4 h5 et ⊢;have hd : a.drop (i + 1 + (m + 1)) = l.drop (i + 1 + (m + 1)) := by
    have := congrArg (List.drop 1) h6;simpa [List.drop_drop, Nat.add_assoc] using this
   unfold A4;simp only [letJ];left;rw [bf (by omega), bb, AE hja, ba, hx, hb, ba]
   cases b with
   | true =>
    refine ⟨(a, (F.length : Int), ((i + 1 + (m + 1) : Nat) : Int)), ?_, rfl, h2, ?_, ?_, ?_, hd⟩
    ·rw [Bool.not_true, bc, w64 (by omega) (by omega)]; rfl
    ·rw [et]; simp
    ·rw [et]; simp; omega
    ·rw [et]; simpa using h5
   | false =>
    have hFa : F.length < a.length := by omega
    refine ⟨(a.set F.length l[i + 1 + m], ((F.length + 1 : Nat) : Int), ((i + 1 + (m + 1) : Nat) : Int)), ?_, rfl, by simp [h2], ?_, ?_, ?_, ?_⟩
    ·rw [Bool.not_false, bb, AE hFa];simp only [ba, Int.toNat_natCast];rw [w64 (by omega) (by omega), w64 (by omega) (by omega)]; rfl
    ·rw [et]; simp
    ·rw [et]; simp; omega
    ·rw [et];simp only [Bool.false_eq_true, if_false, bk, bi, bj, Nat.zero_add];rw [List.take_succ_eq_append_getElem (by simp; omega), List.take_set_of_le (Nat.le_refl _), h5];simp
    ·rw [List.drop_set_of_lt (by omega)]; exact hd) (by
   rintro ⟨a, p, j⟩ rec ⟨h1, h2, h3, h4, h5, h6⟩;simp only at h1 h2 h3 h5 h6;subst h1 h3;have el : i + 1 + (l.length - (i + 1)) = l.length := by omega
   rw [el, List.take_length] at h4 h5;refine ⟨(a, ((l.filter fun x => !gB f x).length : Int)), ?_, h2, rfl, h4, h5⟩;unfold A4;simp only [letJ]
   rw [el, bg (by omega), bc, List.take_length]) (n := FUEL) (by unfold FUEL; omega)
 rw [e, ba];obtain ⟨a, p⟩ := o;obtain ⟨r1, r2, r3, r4⟩ := hR;simp only at r1 r2 r4 ⊢;subst r2;rw [Er (by omega), ba];unfold ltL;rw [if_pos (by omega), ba, Int.toNat_natCast, r4]
def Gx (p : List Int) : Nat -> List Ab -> List Spt
 | _, [] => []
 | i, k :: l => ⟨p ++ [(i : Int)], k⟩ :: Gx p (i + 1) l
def EA (s : Spt) : List Spt := Gx s.path 0 s.node.Kids
theorem Ni (p : List Int) (x : Ab) : ∀ (l : List Ab) (i : Nat), Gx p i (l ++ [x]) = Gx p i l ++ [⟨p ++ [((i + l.length : Nat) : Int)], x⟩]
 | [], i => by simp [Gx]
 | y :: l, i => by
  simp only [List.cons_append, Gx, Ni p x l (i + 1), bi];rw [show i + 1 + l.length = i + (l.length + 1) by omega]
theorem G5 (p : List Int) : ∀ (l : List Ab) (i : Nat), (Gx p i l).length = l.length
 | [], _ => rfl
 | _ :: l, i => by simp only [Gx, bi, G5 p l]
theorem EC {p : List Int} {s : Spt} : ∀ {l : List Ab} {i : Nat}, s ∈ Gx p i l -> ∃ j, ∃ h : j < l.length, s = ⟨p ++ [((i + j : Nat) : Int)], l[j]⟩
 | [], i, h => by cases h
 | k :: l, i, h => by
  rcases List.mem_cons.1 h with rfl | h
  ·exact ⟨0, by simp, rfl⟩
  ·obtain ⟨j, hj, e⟩ := EC h;refine ⟨j + 1, by simp; omega, ?_⟩;rw [e, show i + 1 + j = i + (j + 1) by omega]; rfl
def PW (st : Ag) (k : Ab) : Bool := (Cl st k).getD false
theorem PF (st : Ag) (k : Ab) : Cl st k = some (PW st k) := by
 have : ∃ b, Cl st k = some b := by
  unfold Cl;cases (st.test == ([42] : List By8)) <;> cases (st.test == ([116, 101, 120, 116] : List By8)) <;> cases (st.test == ([99, 111, 109, 109, 101, 110, 116] : List By8)) <;> cases (st.test == ([110, 111, 100, 101] : List By8)) <;> exact ⟨_, rfl⟩
 obtain ⟨b, hb⟩ := this;unfold PW;rw [hb]; rfl
def Vj (c : Ad) (n : Ab) : Bool := (B6 c n).getD false
def OkC (c : Ad) (N : Nat) : Prop := (∀ n, szN n <= N -> ∃ b, B6 c n = some b) /\ (c.kind = 91 -> 1 <= c.k /\ c.k <= 1000000000)
def Fr (l : List Spt) (c : Ad) : List Spt := if c.kind = 91 then (l.drop (c.k.toNat - 1)).take 1 else l.filter fun s => Vj c s.node
def ofP (st : Ag) (s : Spt) : List Spt := st.conds.foldl Fr ((EA s).filter fun k => PW st k.node)
theorem Tv (l : List Spt) (c : Ad) : (Fr l c).Sublist l := by
 unfold Fr;split
 ·exact (List.take_sublist _ _).trans (List.drop_sublist _ _)
 ·exact List.filter_sublist
theorem Nv : ∀ (cs : List Ad) (l : List Spt), (cs.foldl Fr l).Sublist l
 | [], l => .refl _
 | c :: cs, l => (Nv cs (Fr l c)).trans (Tv l c)
theorem I3 (st : Ag) (s : Spt) : (ofP st s).Sublist (EA s) := (Nv _ _).trans List.filter_sublist
theorem Rm : ∀ (cs : List Ad), cs.foldl Fr [] = []
 | [] => rfl
 | c :: cs => by
  have : Fr [] c = [] := by unfold Fr; split <;> simp
  rw [List.foldl_cons, this, Rm cs]
theorem Ac4 {N : Nat} (st : Ag) (s : Spt) (hN : N <= 1048576) (hs : szN s.node <= N) (hp : s.path.length <= 1048576) (hc : ∀ c ∈ st.conds, OkC c N) (hcl : st.conds.length <= 1073741824) : CX st s = some (ofP st s) := by
 have hk := EV s.node;unfold CX;simp only [letJ]
 obtain ⟨o, e, rfl⟩ := AU (b := Dz st s) (fun i x => x = ((Gx s.path 0 (s.node.Kids.take i)).filter (fun k => PW st k.node), (i : Int))) (fun o => o = (EA s).filter fun k => PW st k.node) s.node.Kids.length (x0 := (([] : List Spt), (0 : Int))) rfl (by
  rintro i _ rec hi rfl;left;have hlen : ((Gx s.path 0 (s.node.Kids.take i)).filter (fun k => PW st k.node)).length <= 1048576 := by
   have h1 := List.length_filter_le (fun k : Spt => PW st k.node) (Gx s.path 0 (s.node.Kids.take i));rw [G5, List.length_take] at h1;omega
  refine ⟨_, ?_, rfl⟩;unfold Dz;simp only [letJ];rw [bf (by omega), bb, AE hi, ba, PF, ba, w64 (by omega) (by omega), List.take_succ_eq_append_getElem hi, Ni, List.filter_append];have ht : (s.node.Kids.take i).length = i := by rw [List.length_take]; omega
  generalize hA : (Gx s.path 0 (s.node.Kids.take i)).filter (fun k => PW st k.node) = A at hlen ⊢
  cases hf : PW st s.node.Kids[i] with
  | false =>
   rw [bc];simp [hf]
  | true =>
   rw [bb, Cm (by simp only [bj]; omega) (by simp only [bj]; omega), ba, List.nil_append, Cm (by simp only [bi, bj]; omega) (by simp only [bi, bj]; omega), ba,
    Cm (by simp only [bi, bj]; omega) (by simp only [bi, bj]; omega), ba, ba]
   simp [hf, ht]) (by
  rintro _ rec rfl;refine ⟨_, ?_, rfl⟩;unfold Dz;dsimp only
  rw [bg (by omega), bc, List.take_length]; rfl) (n := FUEL) (by unfold FUEL; omega)
 rw [e, ba];have hl0 : ((EA s).filter fun k => PW st k.node).length <= 1048576 := by
  have h1 := List.length_filter_le (fun k : Spt => PW st k.node) (EA s);unfold EA at h1;rw [G5] at h1;unfold EA;omega
 have hz0 : ∀ x ∈ (EA s).filter (fun k => PW st k.node), szN x.node <= N := by
  intro x hx;obtain ⟨j, hj, e⟩ := EC (List.mem_filter.1 hx).1;have := I5 (bm hj);rw [e]; show szN s.node.Kids[j] <= N; omega
 generalize hL : (EA s).filter (fun k => PW st k.node) = L at hl0 hz0
 obtain ⟨o, e, hR⟩ := AU (b := Dx st) (fun i x => x = ((st.conds.take i).foldl Fr L, (i : Int))) (fun o => (match o with | .inl a => a | .inr a => a) = st.conds.foldl Fr L) st.conds.length (x0 := (L, (0 : Int))) rfl (by
  rintro i _ rec hi rfl;have hsub := Nv (st.conds.take i) L;have hl1 := hsub.length_le;have hz1 : ∀ x ∈ (st.conds.take i).foldl Fr L, szN x.node <= N := fun x hx => hz0 x (hsub.subset hx);obtain ⟨c1, c2⟩ := hc _ (bm hi);have et : (st.conds.take (i + 1)).foldl Fr L = Fr ((st.conds.take i).foldl Fr L) st.conds[i] := by
   rw [List.take_succ_eq_append_getElem hi, List.foldl_append]; rfl
  have ed : st.conds.foldl Fr L = (st.conds.drop (i + 1)).foldl Fr (Fr ((st.conds.take i).foldl Fr L) st.conds[i]) := by
   conv => lhs; rw [<- List.take_append_drop (i + 1) st.conds, List.foldl_append, et]
  generalize hA : (st.conds.take i).foldl Fr L = A at hl1 hz1 et ed ⊢;unfold Dx;simp only [letJ];rw [bf (by omega), bb, AE hi, ba, w64 (x := (i : Int) + 1) (by omega) (by omega)];by_cases h91 : st.conds[i].kind = 91
  ·obtain ⟨k1, k2⟩ := c2 h91;rw [show (st.conds[i].kind != (91 : Int)) = false by simp [h91], bc, w64 (by omega) (by omega)];by_cases hlt : (A.length : Int) < st.conds[i].k
   ·right;refine ⟨.inr [], by rw [bf hlt, bb], ?_⟩;have : Fr A st.conds[i] = [] := by
     unfold Fr;rw [if_pos h91, List.drop_of_length_le (by omega)]; rfl
    show [] = _;rw [ed, this, Rm]
   ·left;refine ⟨_, ?_, rfl⟩;rw [bg hlt, bc];unfold Ad7;rw [if_pos (by omega), ba, et];unfold Fr;rw [if_pos h91, show (st.conds[i].k - 1).toNat = st.conds[i].k.toNat - 1 by omega, show st.conds[i].k.toNat - (st.conds[i].k.toNat - 1) = 1 by omega];rfl
  ·left;refine ⟨_, ?_, rfl⟩;have hg : ∀ x : Spt, szN x.node <= N -> Dg x st.conds[i] = some (!Vj st.conds[i] x.node) := by
    intro x hx;obtain ⟨b, hb⟩ := c1 x.node hx;unfold Dg Vj;rw [hb]; rfl
   rw [show (st.conds[i].kind != (91 : Int)) = true by simp [h91], bb, X5 (by omega) (fun x hx => ⟨_, hg x (hz1 x hx)⟩), ba, et];unfold Fr;rw [if_neg h91];have : A.filter (fun x => !gB (fun z0 => Dg z0 st.conds[i]) x) = A.filter (fun s => Vj st.conds[i] s.node) := List.filter_congr fun x hx => by
    unfold gB;dsimp only;rw [hg x (hz1 x hx)]; simp
   rw [this]; rfl) (by
  rintro _ rec rfl;refine ⟨.inl ((st.conds.take st.conds.length).foldl Fr L), ?_, ?_⟩
  ·unfold Dx;dsimp only;rw [bg (by omega), bc]
  ·show (st.conds.take st.conds.length).foldl Fr L = _
   rw [List.take_length]) (n := FUEL) (by unfold FUEL; omega)
 rw [e, ba];unfold ofP;rw [hL]
 cases o with
 | inl a => simp only at hR ⊢; rw [hR]
 | inr a => simp only at hR ⊢; rw [hR]

set_option linter.unusedSimpArgs false
set_option linter.unusedVariables false
set_option maxRecDepth 20000
def Fp (st : Ag) : Nat -> Spt -> List Spt
 | 0, _ => []
 | n + 1, s => ofP st s ++ (EA s).flatMap (Fp st n)
theorem Lu {f : Spt -> List Spt} (hf : ∀ s : Spt, (f s).length <= (DM s.node.Kids).length) (p : List Int) : ∀ (l : List Ab) (i : Nat), l.length + ((Gx p i l).flatMap f).length <= (DM l).length
 | [], i => by simp [Gx]
 | x :: l, i => by
  have ih := Lu hf p l (i + 1);have h1 := hf ⟨p ++ [(i : Int)], x⟩;simp only [Gx, List.flatMap_cons, bk, bi, DM, F3] at h1 ih ⊢;omega
theorem Le (st : Ag) : ∀ (n : Nat) (s : Spt), (Fp st n s).length <= (DM s.node.Kids).length
 | 0, s => by simp [Fp]
 | n + 1, s => by
  have h1 := (I3 st s).length_le;have h2 := Lu (Le st n) s.path s.node.Kids 0;unfold EA at h1;rw [G5] at h1;simp only [Fp, bk];unfold EA;omega
theorem LJ (p : List Int) : ∀ (l : List Ab) (i j : Nat) (h : j < l.length), (Gx p i l)[j]? = some ⟨p ++ [((i + j : Nat) : Int)], l[j]⟩
 | [], i, j, h => by simp at h
 | x :: l, i, 0, h => rfl
 | x :: l, i, j + 1, h => by
  simp only [Gx, List.getElem?_cons_succ, List.getElem_cons_succ];rw [LJ p l (i + 1) j (by simpa using h), show i + 1 + j = i + (j + 1) by omega]
theorem To {st : Ag} {N : Nat} (hN : N <= 1048576) (hc : ∀ c ∈ st.conds, OkC c N) (hcl : st.conds.length <= 1073741824) : ∀ (n : Nat) (s : Spt), szN s.node < n -> szN s.node <= N ->
  s.path.length + szN s.node <= 1048576 -> iter BO n (st, s) = some (Fp st n s)
 | 0, s, h, _, _ => by omega
 | n + 1, s, h, hs, hp2 => by
  have hk := EV s.node;have hkl := Ff s.node;have ih := fun q => To hN hc hcl n q;rw [BH];generalize iter BO n = rc at ih ⊢;unfold BO;simp only [letJ];rw [Ac4 st s hN hs (by omega) hc hcl, ba];have hof := (I3 st s).length_le;unfold EA at hof;rw [G5] at hof
  obtain ⟨o, e, rfl⟩ := AU (b := CR st s rc) (fun i x => x = (ofP st s ++ ((EA s).take i).flatMap (Fp st n), (i : Int))) (fun o => o = ofP st s ++ (EA s).flatMap (Fp st n)) s.node.Kids.length (x0 := (ofP st s, (0 : Int))) (by simp) (by
   rintro i _ rec hi rfl;left;have hz := I5 (bm hi);have hpos := NW s.node.Kids[i];have hget := LJ s.path s.node.Kids 0 i hi;rw [Nat.zero_add] at hget;have htake : (EA s).take (i + 1) = (EA s).take i ++ [⟨s.path ++ [(i : Int)], s.node.Kids[i]⟩] := by
    unfold EA;rw [List.take_add_one, hget]; rfl
   have hlenT : (((EA s).take i).flatMap (Fp st n)).length <= 1048576 := by
    have h1 := Lu (Le st n) s.path (s.node.Kids) 0;have h2 := Gv s.node.Kids;have h3 : (((EA s).take i).flatMap (Fp st n)).length <= ((EA s).flatMap (Fp st n)).length := by
     conv => rhs; rw [<- List.take_append_drop i (EA s), List.flatMap_append, bk]
     omega
    unfold EA at h3 ⊢;omega
   have hlenK := Le st n ⟨s.path ++ [(i : Int)], s.node.Kids[i]⟩;have hlenK2 := Gv s.node.Kids[i].Kids;have hlenK3 := Ff s.node.Kids[i];simp only at hlenK;refine ⟨_, ?_, rfl⟩;unfold CR;dsimp only
   rw [bf (by omega), bb, AE hi, ba, Cm (by simp only [bj]; omega) (by simp only [bj]; omega), ba, List.nil_append,
    Cm (by simp only [bi, bj]; omega) (by simp only [bi, bj]; omega), ba,
    ih ⟨s.path ++ [(i : Int)], s.node.Kids[i]⟩ (by dsimp only; omega) (by dsimp only; omega) (by simp only [bk, bi, bj]; omega), ba,
    Cm (by simp only [bk]; omega) (by simp only [bk]; omega), ba, w64 (by omega) (by omega), htake, List.flatMap_append]
   simp) (by
   rintro _ rec rfl;refine ⟨_, ?_, rfl⟩;unfold CR;dsimp only;rw [bg (by omega), bc];have : (EA s).take s.node.Kids.length = EA s := List.take_of_length_le (by unfold EA; rw [G5]; exact Nat.le_refl _)
   rw [this]) (n := FUEL) (by unfold FUEL; omega)
  rw [e, ba];rfl

set_option linter.unusedSimpArgs false
set_option linter.unusedVariables false
set_option maxRecDepth 20000
theorem S9 : ∀ a b : List Int, Ii a b = HT a b
 | [], [] => rfl
 | [], _ :: _ => rfl
 | _ :: _, [] => rfl
 | x :: a, y :: b => by
  simp only [Ii, HT, Jb];by_cases h1 : x < y
  ·simp [h1]
  ·by_cases h2 : y < x
   ·simp [h1, h2]
   ·simp [h1, h2, S9 a b]
theorem Nu : ∀ (p q : List Int) (x : Ab), atP x (p ++ q) = (atP x p).bind fun y => atP y q
 | [], q, x => by simp [atP]
 | s :: r, q, x => by
  simp only [List.cons_append, atP];split
  ·rfl
  ·cases x.Kids[s.toNat]? with
   | none => rfl
   | some y => simp only [ba]; exact Nu r q y
theorem Nz : ∀ (l : List Int) (x y : Ab), atP x l = some y -> l.length + szN y <= szN x
 | [], x, y, h => by simp only [atP, Option.some.injEq] at h; subst h; simp
 | s :: r, x, y, h => by
  simp only [atP] at h;split at h
  ·cases h
  ·obtain ⟨z, hz, h2⟩ := Option.bind_eq_some_iff.1 h;have h3 := Nz r z y h2;have h4 := I5 (List.mem_of_getElem? hz);simp only [bi]; omega
def Blw (s x : Spt) : Prop := ∃ q, q ≠ [] /\ x.path = s.path ++ q /\ atP s.node q = some x.node
def Dst (l : List Spt) : Prop := (l.map (·.path)).Nodup
def Val (d : Ab) (x : Spt) : Prop := atP d x.path = some x.node
theorem Blw.val {d : Ab} {s x : Spt} (h : Blw s x) (hv : Val d s) : Val d x := by
 obtain ⟨q, _, h1, h2⟩ := h;unfold Val at hv ⊢;rw [h1, Nu, hv]; exact h2
theorem Blw.pre {s x : Spt} (h : Blw s x) : s.path <+: x.path := by obtain ⟨q, _, h1, _⟩ := h; exact ⟨q, h1.symm⟩
theorem TW {s x : Spt} (h : x ∈ EA s) : Blw s x := by
 obtain ⟨j, hj, rfl⟩ := EC h;refine ⟨[((0 + j : Nat) : Int)], by simp, rfl, ?_⟩;have := NL [] s.node (0 + j);simp only [List.nil_append, atP, ba] at this ⊢;rw [this];simp [hj]
theorem XI {st : Ag} {s x : Spt} (h : x ∈ ofP st s) : Blw s x := TW ((I3 st s).subset h)
theorem Blw.trans {a b c : Spt} (h : Blw a b) (g : Blw b c) : Blw a c := by
 obtain ⟨q, h0, h1, h2⟩ := h;obtain ⟨r, g0, g1, g2⟩ := g;exact ⟨q ++ r, by simp [h0], by rw [g1, h1, List.append_assoc], by rw [Nu, h2]; exact g2⟩
theorem JB (st : Ag) : ∀ (n : Nat) (s x : Spt), x ∈ Fp st n s -> Blw s x
 | 0, s, x, h => by cases h
 | n + 1, s, x, h => by
  rcases List.mem_append.1 h with h | h
  ·exact XI h
  ·obtain ⟨k, hk, hx⟩ := List.mem_flatMap.1 h;exact (TW hk).trans (JB st n k x hx)
theorem LZ (p : List Int) : ∀ (l : List Ab) (i : Nat), Dst (Gx p i l)
 | [], i => List.nodup_nil
 | x :: l, i => by
  refine List.nodup_cons.2 ⟨fun h => ?_, LZ p l (i + 1)⟩;obtain ⟨y, hy, e⟩ := List.mem_map.1 h;obtain ⟨j, hj, rfl⟩ := EC hy;have := List.append_cancel_left e;simp at this;omega
def Inc (a b : Spt) : Prop := ¬ a.path <+: b.path /\ ¬ b.path <+: a.path
theorem Od {f : Spt -> List Spt} : ∀ (L : List Spt), (∀ s ∈ L, ∀ x ∈ f s, Blw s x) -> (∀ s ∈ L, Dst (f s)) -> L.Pairwise Inc -> Dst (L.flatMap f)
 | [], _, _, _ => List.nodup_nil
 | s :: L, h1, h2, h3 => by
  obtain ⟨g1, g2⟩ := List.pairwise_cons.1 h3;unfold Dst;rw [List.flatMap_cons, List.map_append];refine List.nodup_append.2 ⟨h2 s List.mem_cons_self, Od L (fun s hs => h1 s (List.mem_cons_of_mem _ hs)) (fun s hs => h2 s (List.mem_cons_of_mem _ hs)) g2, ?_⟩;intro p hp q hq e;subst e;obtain ⟨x, hx, rfl⟩ := List.mem_map.1 hp;obtain ⟨y, hy, e⟩ := List.mem_map.1 hq;obtain ⟨t, ht, hy⟩ := List.mem_flatMap.1 hy;have e1 := (h1 s List.mem_cons_self x hx).pre;have e2 := (h1 t (List.mem_cons_of_mem _ ht) y hy).pre;rw [e] at e2;rcases List.prefix_or_prefix_of_prefix e1 e2 with h | h
  ·exact (g1 t ht).1 h
  ·exact (g1 t ht).2 h
theorem Us (p : List Int) (l : List Ab) (i : Nat) : (Gx p i l).Pairwise Inc := by
 have h := LZ p l i;unfold Dst List.Nodup at h;rw [List.pairwise_map] at h;refine List.Pairwise.imp_of_mem ?_ h;intro a b ha hb hne;obtain ⟨j, _, rfl⟩ := EC ha;obtain ⟨k, _, rfl⟩ := EC hb;exact ⟨fun hp => hne (hp.eq_of_length (by simp)), fun hp => hne (hp.eq_of_length (by simp)).symm⟩
theorem Dst.sub {a b : List Spt} (h : Dst b) (hs : a.Sublist b) : Dst a := h.sublist (hs.map _)
theorem TP (st : Ag) (s : Spt) : Dst (ofP st s) := (LZ _ _ _).sub (I3 st s)
theorem OB (st : Ag) : ∀ (n : Nat) (s : Spt), Dst (Fp st n s)
 | 0, s => List.nodup_nil
 | n + 1, s => by
  unfold Fp Dst;rw [List.map_append];refine List.nodup_append.2 ⟨TP st s, Od _ (fun k _ x hx => JB st n k x hx) (fun k _ => OB st n k) (Us _ _ _), ?_⟩;intro p hp q hq e;subst e;obtain ⟨x, hx, rfl⟩ := List.mem_map.1 hp;obtain ⟨y, hy, e⟩ := List.mem_map.1 hq;obtain ⟨k, hk, hy⟩ := List.mem_flatMap.1 hy;obtain ⟨j, _, rfl⟩ := EC ((I3 st s).subset hx);obtain ⟨i, _, rfl⟩ := EC hk;obtain ⟨r, hr, h1, _⟩ := JB st n _ y hy;rw [h1] at e;have := congrArg List.length e;simp only [bk, bi, bj] at this;exact hr (List.length_eq_zero_iff.1 (by omega))
/- All paths. -/
mutual
def DQ : Ab -> List (List Int)
 | ⟨_, _, _, Kids, _⟩ => [] :: C2 0 Kids
def C2 : Nat -> List Ab -> List (List Int)
 | _, [] => []
 | i, x :: l => (DQ x).map ((i : Int) :: ·) ++ C2 (i + 1) l
end
mutual
theorem JY : ∀ x : Ab, (DQ x).length <= szN x
 | ⟨k, nm, a, ks, t⟩ => by
  have h1 := Kf ks 0;have h2 := Ff ⟨k, nm, a, ks, t⟩;simp only [DQ, bi] at h1 h2 ⊢;omega
theorem Kf : ∀ (l : List Ab) (i : Nat), (C2 i l).length <= Mp l
 | [], _ => by simp [C2]
 | x :: l, i => by
  have h1 := JY x;have h2 := Kf l (i + 1);simp only [C2, bk, List.length_map, Mp] at h1 h2 ⊢;have : szN x = Bl x := rfl;omega
end
theorem MT {p : List Int} : ∀ (l : List Ab) (i j : Nat) (h : j < l.length), p ∈ DQ l[j] -> (((i + j : Nat) : Int) :: p) ∈ C2 i l
 | [], i, j, h, _ => by simp at h
 | x :: l, i, 0, h, hp => by
  simp only [C2];exact List.mem_append_left _ (List.mem_map.2 ⟨p, hp, rfl⟩)
 | x :: l, i, j + 1, h, hp => by
  simp only [C2];refine List.mem_append_right _ ?_;have := MT l (i + 1) j (by simpa using h) (by simpa using hp)
  rwa [show i + 1 + j = i + (j + 1) by omega] at this
theorem Nh : ∀ (p : List Int) (x y : Ab), atP x p = some y -> p ∈ DQ x
 | [], ⟨k, nm, a, ks, t⟩, y, _ => List.mem_cons_self
 | s :: r, ⟨k, nm, a, ks, t⟩, y, h => by
  simp only [atP] at h;split at h
  ·cases h
  ·rename_i hs;obtain ⟨z, hz, h2⟩ := Option.bind_eq_some_iff.1 h;have h3 := Nh r z y h2;obtain ⟨hj, rfl⟩ := List.getElem?_eq_some_iff.1 hz;have := MT ks 0 s.toNat hj h3;rw [show (((0 + s.toNat : Nat) : Int)) = s by omega] at this;exact List.mem_cons_of_mem _ this
theorem O1 : ∀ {l m : List (List Int)}, l.Nodup -> (∀ x ∈ l, x ∈ m) -> l.length <= m.length
 | [], m, _, _ => Nat.zero_le _
 | x :: l, m, h, hs => by
  obtain ⟨h1, h2⟩ := List.nodup_cons.1 h;have hx := hs x List.mem_cons_self;have := O1 (m := m.erase x) h2 fun y hy => (List.mem_erase_of_ne (fun e => h1 (by rw [<- e]; exact hy))).2 (hs y (List.mem_cons_of_mem _ hy));rw [List.length_erase_of_mem hx] at this;have hm : 0 < m.length := List.length_pos_of_mem hx;simp only [bi]; omega
theorem NF {d : Ab} {l : List Spt} (h : Dst l) (hv : ∀ x ∈ l, Val d x) : l.length <= szN d := by
 have := O1 (m := DQ d) h fun p hp => by
  obtain ⟨x, hx, rfl⟩ := List.mem_map.1 hp;exact Nh _ _ _ (hv x hx)
 rw [List.length_map] at this;exact Nat.le_trans this (JY d)

set_option linter.unusedSimpArgs false
set_option linter.unusedVariables false
set_option maxRecDepth 20000
theorem T7 (l m : List Int) : l.isPrefixOf m = (decide (l.length <= m.length) && (l == m.take l.length)) := by
 rw [Bool.eq_iff_iff, List.isPrefixOf_iff_prefix, Bool.and_eq_true, decide_eq_true_eq, beq_iff_eq];exact ⟨fun h => ⟨h.length_le, List.prefix_iff_eq_take.1 h⟩, fun h => List.prefix_iff_eq_take.2 h.2⟩
def Qp (acc : List Spt) (x : Spt) : Bool := match acc.getLast? with
 | none => true
 | some y => !(y.path.isPrefixOf x.path)
def U0 : List Spt -> List Spt -> List Spt
 | acc, [] => acc
 | acc, x :: l => U0 (if Qp acc x = true then acc ++ [x] else acc) l
def Vv (l : List Spt) : List Spt := U0 [] l
theorem Ny : ∀ (l acc : List Spt), (U0 acc l).Sublist (acc ++ l)
 | [], acc => by simp [U0]
 | x :: l, acc => by
  unfold U0;split
  ·have := Ny l (acc ++ [x]); simpa using this
  ·exact (Ny l acc).trans ((List.Sublist.refl acc).append (List.sublist_cons_self x l))
theorem NP (l : List Spt) : (Vv l).Sublist l := Ny l []
def Srt (l : List Spt) : Prop := l.Pairwise fun a b => HT a.path b.path < 0
theorem Oq : ∀ (l acc : List Spt), Srt (acc ++ l) -> (acc.Pairwise fun a b => ¬ a.path <+: b.path) -> (U0 acc l).Pairwise fun a b => ¬ a.path <+: b.path
 | [], acc, _, h => h
 | x :: l, acc, hs, h => by
  unfold U0;split
  ·rename_i hk;refine Oq l (acc ++ [x]) (by simpa using hs) (List.pairwise_append.2 ⟨h, List.pairwise_singleton _ _, fun a ha b hb => ?_⟩);obtain rfl := List.mem_singleton.1 hb;intro hp;obtain ⟨s1, s2, s3⟩ := List.pairwise_append.1 hs;unfold Qp at hk
   cases hl : acc.getLast? with
   | none => rw [List.getLast?_eq_none_iff] at hl; subst hl; cases ha
   | some y =>
    rw [hl] at hk;obtain ⟨init, rfl⟩ := List.getLast?_eq_some_iff.1 hl;have hny : ¬ y.path <+: b.path := by
     intro h;dsimp only at hk;rw [List.isPrefixOf_iff_prefix.2 h] at hk; cases hk
    rcases List.mem_append.1 ha with ha | ha
    ·have h1 := (List.pairwise_append.1 h).2.2 a ha y (List.mem_singleton.2 rfl);have h2 := (List.pairwise_append.1 s1).2.2 a ha y (List.mem_singleton.2 rfl);have h3 := Xu hp h2 h1;have h4 := s3 y (List.mem_append_right _ (List.mem_singleton.2 rfl)) b List.mem_cons_self;have h5 := Jt.anti y.path b.path;omega
    ·obtain rfl := List.mem_singleton.1 ha;exact hny hp
  ·refine Oq l acc (List.Pairwise.sublist ((List.Sublist.refl acc).append (List.sublist_cons_self x l)) hs) h
theorem VB {l : List Spt} (h : Srt l) : (Vv l).Pairwise Inc := by
 have h1 := Oq l [] (by simpa using h) .nil;have h2 : Srt (Vv l) := List.Pairwise.sublist (NP l) h;refine (h1.and h2).imp fun {a b} hh => ⟨hh.1, fun hp => ?_⟩
 have := W6 hp;have h3 := Jt.anti a.path b.path;have h4 := hh.2;omega
theorem VA (l : List Spt) (hl : l.length <= 1048576) (hp : ∀ x ∈ l, x.path.length <= 1048576) : FT l = some (Vv l) := by
 unfold FT;simp only [letJ]
 obtain ⟨o, e, rfl⟩ := AU (b := Ed l) (fun i s => s.2 = (i : Int) /\ U0 s.1 (l.drop i) = Vv l /\ s.1.length <= i /\ ∀ x ∈ s.1, x ∈ l) (fun o => o = Vv l) l.length (x0 := (([] : List Spt), (0 : Int))) ⟨rfl, rfl, by simp, fun x h => by cases h⟩ (by
  rintro i ⟨acc, _⟩ rec hi ⟨rfl, h1, h2, h3⟩;simp only at h1 h2 h3;rw [List.drop_eq_getElem_cons hi] at h1;unfold U0 at h1;left;have hx := hp _ (bm hi);have go : ∀ b : Bool, b = Qp acc l[i] -> ∃ y, (cond b ((app 128 acc [l[i]]).bind fun _ => rec (acc ++ [l[i]], IntKind.wrap .i64 ((i : Int) + 1))) (rec (acc, IntKind.wrap .i64 ((i : Int) + 1))) : Option (List Ah)) = rec y /\ y.2 = ((i + 1 : Nat) : Int) /\ U0 y.1 (l.drop (i + 1)) = Vv l /\ y.1.length <= i + 1 /\ ∀ x ∈ y.1, x ∈ l := by
   intro b hb;rw [w64 (by omega) (by omega)]
   cases b with
   | true =>
    rw [<- hb, if_pos rfl] at h1;refine ⟨(acc ++ [l[i]], ((i + 1 : Nat) : Int)), ?_, rfl, h1, by simp only [bk, bi, bj]; omega, fun x hx => ?_⟩
    ·rw [bb, Cm (by simp only [bi, bj]; omega) (by simp only [bi, bj]; omega), ba]; rfl
    ·rcases List.mem_append.1 hx with hx | hx
     ·exact h3 x hx
     ·rw [List.mem_singleton.1 hx]; exact bm hi
   | false =>
    rw [<- hb, if_neg (by simp)] at h1;exact ⟨(acc, ((i + 1 : Nat) : Int)), by rw [bc]; rfl, rfl, h1, by simp only; omega, h3⟩
  unfold Ed;simp only [letJ];rw [bf (by omega), bb, AE hi, ba]
  cases hl' : acc.getLast? with
  | none =>
   have hk : true = Qp acc l[i] := by unfold Qp; rw [hl']
   rw [List.getLast?_eq_none_iff] at hl';subst hl';exact go true hk
  | some y =>
   have hk : (!(y.path.isPrefixOf l[i].path)) = Qp acc l[i] := by unfold Qp; rw [hl']
   obtain ⟨init, rfl⟩ := List.getLast?_eq_some_iff.1 hl';have hy := hp y (h3 y (List.mem_append_right _ (List.mem_singleton.2 rfl)));have hlen : (init ++ [y]).length = init.length + 1 := by simp
   have hix : idx (init ++ [y]) (IntKind.wrap .i64 (((init ++ [y]).length : Int) - 1)) = some y := by
    rw [w64 (by omega) (by omega), show ((init ++ [y]).length : Int) - 1 = (init.length : Int) by omega, AE (by omega)];simp
   rw [show (((init ++ [y]).length : Int) == (0 : Int)) = false by rw [hlen]; simp; omega, bc, hix, ba];rw [T7] at hk;by_cases hlt : l[i].path.length < y.path.length
   ·rw [bf (by omega), bb];rw [bg (by omega), Bool.false_and, Bool.not_false] at hk;exact go true hk
   ·rw [bg (by omega), bc];simp only [ba];rw [VK (by omega)];simp only [ba];rw [Afv _ _ (by omega)];simp only [ba];rw [bf (by omega), Bool.true_and] at hk
    exact go _ hk) (by
  rintro ⟨acc, _⟩ rec ⟨rfl, h1, h2, h3⟩;simp only at h1;rw [List.drop_length] at h1;refine ⟨_, ?_, h1⟩;unfold Ed;dsimp only
  rw [bg (by omega), bc]; rfl) (n := FUEL) (by unfold FUEL; omega)
 rw [e]; rfl
theorem UR {T : Type} {cf : T -> T -> Int} : ∀ {l : List T}, (l.Pairwise fun a b => cf a b ≠ 0) -> VX cf l = true
 | [], _ => rfl
 | x :: l, h => by
  obtain ⟨h1, h2⟩ := List.pairwise_cons.1 h;simp only [VX, Bool.and_eq_true, List.all_eq_true, bne_iff_ne];exact ⟨h1, UR h2⟩
structure InvS (d : Ab) (l : List Spt) : Prop where
 s : Srt l
 v : ∀ x ∈ l, Val d x
theorem InvS.dst {d : Ab} {l : List Spt} (h : InvS d l) : Dst l := by
 unfold Dst List.Nodup;rw [List.pairwise_map];refine h.s.imp fun {a b} hh e => ?_;rw [e, Jt.refl] at hh; omega
theorem Val.len {d : Ab} {x : Spt} (h : Val d x) : x.path.length + szN x.node <= szN d := Nz _ _ _ h
theorem Yu {d : Ab} {l : List Spt} (hs : szN d <= 1048576) (hd : Dst l) (hv : ∀ x ∈ l, Val d x) : Pr IV Fq l = some (KC Fq l) /\ InvS d (KC Fq l) := by
 have hap : VX Fq l = true := UR (by
  unfold Dst List.Nodup at hd;rw [List.pairwise_map] at hd;refine hd.imp fun {a b} h e => h ?_;unfold Fq at e;rw [S9] at e
  exact Pi e)
 have hg : l.all IV = true := List.all_eq_true.2 fun x hx => by
  have := (hv x hx).len;unfold IV;rw [decide_eq_true_eq]; omega
 have hl := NF hd hv;obtain ⟨p1, p2⟩ := Mg (cf := Fq) (fun x y => Fc _ _) Tj hap;refine ⟨?_, ⟨p2.imp fun {a b} h => ?_, fun x hx => hv x (p1.subset hx)⟩⟩
 ·unfold Pr;rw [hap, hg, bf (by omega)]; rfl
 ·unfold Fq at h;rw [S9] at h;exact h
def stF (st : Ag) (s : Spt) : List Spt := if st.deep then Fp st FUEL s else ofP st s
def stL (st : Ag) (l : List Spt) : List Spt := if st.deep then Vv l else l
def IK (st : Ag) (l : List Spt) : List Spt := KC Fq ((stL st l).flatMap (stF st))
theorem Un {st : Ag} {s x : Spt} (h : x ∈ stF st s) : Blw s x := by
 unfold stF at h;split at h
 ·exact JB st FUEL s x h
 ·exact XI h
theorem Yf (st : Ag) (s : Spt) : Dst (stF st s) := by
 unfold stF;split
 ·exact OB st FUEL s
 ·exact TP st s
theorem Ud {st : Ag} : ∀ (L : List Spt), Dst L -> Dst (L.flatMap (ofP st))
 | [], _ => List.nodup_nil
 | s :: L, h => by
  obtain ⟨h1, h2⟩ := List.nodup_cons.1 h;unfold Dst;rw [List.flatMap_cons, List.map_append];refine List.nodup_append.2 ⟨TP st s, Ud L h2, ?_⟩;intro p hp q hq e;subst e;obtain ⟨x, hx, rfl⟩ := List.mem_map.1 hp;obtain ⟨y, hy, e⟩ := List.mem_map.1 hq;obtain ⟨t, ht, hy⟩ := List.mem_flatMap.1 hy;obtain ⟨j, _, rfl⟩ := EC ((I3 st s).subset hx);obtain ⟨i, _, rfl⟩ := EC ((I3 st t).subset hy);have := List.append_inj_left' e rfl;exact h1 (List.mem_map.2 ⟨t, ht, this⟩)
theorem PT {d : Ab} (st : Ag) {l : List Spt} (h : InvS d l) : Dst ((stL st l).flatMap (stF st)) /\ ∀ x ∈ (stL st l).flatMap (stF st), Val d x := by
 have hsub : (stL st l).Sublist l := by
  unfold stL;split
  ·exact NP l
  ·exact .refl _
 refine ⟨?_, fun x hx => ?_⟩
 ·cases hd : st.deep with
  | true =>
   have e1 : stL st l = Vv l := by unfold stL; rw [hd]; rfl
   rw [e1];exact Od _ (fun s _ x hx => Un hx) (fun s _ => Yf st s) (VB h.s)
  | false =>
   have e1 : stL st l = l := by unfold stL; rw [hd]; rfl
   have e2 : stF st = ofP st := by funext s; unfold stF; rw [hd]; rfl
   rw [e1, e2];exact Ud l h.dst
 ·obtain ⟨s, hs, hx⟩ := List.mem_flatMap.1 hx;exact (Un hx).val (h.v s (hsub.subset hs))
theorem Ol {d : Ab} (hs : szN d <= 1048576) (st : Ag) {l : List Spt} (h : InvS d l) : Pr IV Fq ((stL st l).flatMap (stF st)) = some (IK st l) /\ InvS d (IK st l) :=
 Yu hs (PT st h).1 (PT st h).2

set_option linter.unusedSimpArgs false
set_option linter.unusedVariables false
set_option maxRecDepth 20000
def Y0 (st : Ag) (a : Aj) : Bool := (st.test == ([42] : List By8)) || ((a.Name.URI == st.name.URI) && ((a.Name.Local == st.name.Local) && true))
def RY (st : Ag) (s : Spt) : List Ak := (s.node.Attrs.filter (Y0 st)).map fun a => ⟨s.path, true, a.Name⟩
theorem RL (st : Ag) (s : Spt) : (RY st s).length <= s.node.Attrs.length := by
 unfold RY; rw [List.length_map]; exact List.length_filter_le _ _
theorem K7 {α β : Type} (f : α -> List β) (B : Nat) : ∀ l : List α, (∀ x ∈ l, (f x).length <= B) -> (l.flatMap f).length <= l.length * B
 | [], _ => by simp
 | x :: l, h => by
  have h1 := h x List.mem_cons_self;have h2 := K7 f B l fun y hy => h y (List.mem_cons_of_mem _ hy);rw [List.flatMap_cons, bk, bi, Nat.succ_mul];omega
theorem VS (st : Ag) (s : Spt) (acc : List Ak) (hp : s.path.length <= 1048576) (hA : s.node.Attrs.length <= 1048576) (ha : acc.length <= 1099511627776) :
  iter (DC st s) FUEL (acc, (0 : Int)) = some (acc ++ RY st s) := by
 obtain ⟨o, e, rfl⟩ := AU (b := DC st s) (fun i x => x = (acc ++ ((s.node.Attrs.take i).filter (Y0 st)).map (fun a => (⟨s.path, true, a.Name⟩ : Ak)), (i : Int))) (fun o => o = acc ++ RY st s) s.node.Attrs.length (x0 := (acc, (0 : Int))) (by simp) (by
  rintro i _ rec hi rfl;left;have hlen : (((s.node.Attrs.take i).filter (Y0 st)).map (fun a => (⟨s.path, true, a.Name⟩ : Ak))).length <= 1048576 := by
   rw [List.length_map];have := List.length_filter_le (Y0 st) (s.node.Attrs.take i);rw [List.length_take] at this; omega
  refine ⟨_, ?_, rfl⟩;unfold DC;simp only [letJ];rw [bf (by omega), bb, AE hi, ba, w64 (by omega) (by omega), List.take_succ_eq_append_getElem hi, List.filter_append, List.map_append];generalize hA' : ((s.node.Attrs.take i).filter (Y0 st)).map (fun a => (⟨s.path, true, a.Name⟩ : Ak)) = A at hlen ⊢;show (cond (Y0 st s.node.Attrs[i]) _ _ : Option _) = _
  cases hf : Y0 st s.node.Attrs[i] with
  | false => rw [bc]; simp [hf]
  | true =>
   have hcl : L_CloneInts s.path = some s.path := by unfold L_CloneInts; rw [if_pos (by omega)]
   rw [bb, hcl, ba, Cm (by simp only [bk, bi, bj]; omega) (by simp only [bk, bi, bj]; omega), ba]
   simp [hf]) (by
  rintro _ rec rfl;refine ⟨_, ?_, rfl⟩;unfold DC;dsimp only
  rw [bg (by omega), bc, List.take_length]; rfl) (n := FUEL) (by unfold FUEL; omega)
 exact e
def U1 (st : Ag) (l : List Spt) : List Ak := l.flatMap (RY st)
theorem Wt (st : Ag) (l : List Spt) (hl : l.length <= 1048576) (hx : ∀ x ∈ l, x.path.length <= 1048576 /\ x.node.Attrs.length <= 1048576) : FU l st = some (U1 st l) := by
 unfold FU;simp only [letJ]
 obtain ⟨o, e, rfl⟩ := AU (b := Ee l st) (fun i x => x = ((l.take i).flatMap (RY st), (i : Int))) (fun o => o = U1 st l) l.length (x0 := (([] : List Ak), (0 : Int))) rfl (by
  rintro i _ rec hi rfl;left;obtain ⟨h1, h2⟩ := hx _ (bm hi);have hlen : ((l.take i).flatMap (RY st)).length <= 1099511627776 := by
   have h := K7 (RY st) 1048576 (l.take i) fun x hx' => Nat.le_trans (RL st x) (hx x (List.mem_of_mem_take hx')).2;have h3 : (l.take i).length * 1048576 <= 1048576 * 1048576 := Nat.mul_le_mul_right _ (by rw [List.length_take]; omega);omega
  refine ⟨_, ?_, rfl⟩;unfold Ee;simp only [letJ];rw [bf (by omega), bb, AE hi, ba, w64 (by omega) (by omega), VS st _ _ h1 h2 hlen, ba, List.take_succ_eq_append_getElem hi, List.flatMap_append]
  simp) (by
  rintro _ rec rfl;refine ⟨_, ?_, rfl⟩;unfold Ee;dsimp only
  rw [bg (by omega), bc, List.take_length]; rfl) (n := FUEL) (by unfold FUEL; omega)
 rw [e]; rfl
def trS (s : Spt) : Ak := ⟨s.path, false, ⟨[], []⟩⟩
def D9 : List Ag -> List Spt -> List Ak
 | [], l => l.map trS
 | st :: r, l => if st.attr then U1 st l else D9 r (IK st l)
def OkS (N : Nat) (st : Ag) : Prop := (∀ c ∈ st.conds, OkC c N) /\ st.conds.length <= 1073741824
theorem YJ {d : Ab} {st : Ag} {l : List Spt} (hs : szN d <= 1048576) (hok : OkS (szN d) st) (h : InvS d l) : iter (DS st (stL st l)) FUEL (([] : List Spt), (0 : Int)) = some ((stL st l).flatMap (stF st)) := by
 obtain ⟨hd, hv⟩ := PT st h;have hsub : (stL st l).Sublist l := by
  unfold stL;split
  ·exact NP l
  ·exact .refl _
 have hll := NF h.dst h.v;have hLl := hsub.length_le;generalize hL : stL st l = L at hd hv hsub hLl ⊢
 obtain ⟨o, e, rfl⟩ := AU (b := DS st L) (fun i x => x = ((L.take i).flatMap (stF st), (i : Int))) (fun o => o = L.flatMap (stF st)) L.length (x0 := (([] : List Spt), (0 : Int))) rfl (by
  rintro i _ rec hi rfl;left;have hval := h.v _ (hsub.subset (bm hi));have hvl := hval.len;have hlen : ((L.take i).flatMap (stF st)).length + (stF st L[i]).length <= 1048576 := by
   have e1 : (L.take (i + 1)).flatMap (stF st) = (L.take i).flatMap (stF st) ++ stF st L[i] := by
    rw [List.take_succ_eq_append_getElem hi, List.flatMap_append]; simp
   have e2 : ((L.take (i + 1)).flatMap (stF st)).Sublist (L.flatMap (stF st)) := by
    conv => rhs; rw [<- List.take_append_drop (i + 1) L, List.flatMap_append]
    exact List.sublist_append_left _ _
   have := NF (hd.sub e2) (fun x hx => hv x (e2.subset hx));rw [e1, bk] at this;omega
  have key : ∃ r, (cond st.deep (Fz st L[i]) (CX st L[i])) = some r /\ r = stF st L[i] := by
   cases hdp : st.deep with
   | true =>
    rw [bb];refine ⟨_, To (N := szN d) (by omega) hok.1 hok.2 FUEL L[i] (by unfold FUEL; omega) (by omega) (by omega), ?_⟩;unfold stF; rw [hdp]; rfl
   | false =>
    rw [bc];refine ⟨_, Ac4 (N := szN d) st L[i] (by omega) (by omega) (by omega) hok.1 hok.2, ?_⟩;unfold stF; rw [hdp]; rfl
  obtain ⟨r, hr, hr2⟩ := key;refine ⟨((L.take (i + 1)).flatMap (stF st), ((i + 1 : Nat) : Int)), ?_, rfl⟩;have e1 : (L.take (i + 1)).flatMap (stF st) = (L.take i).flatMap (stF st) ++ stF st L[i] := by
   rw [List.take_succ_eq_append_getElem hi, List.flatMap_append]; simp
  rw [e1, <- hr2];rw [<- hr2] at hlen;unfold DS;simp only [letJ];rw [bf (by omega), bb, AE hi, ba, w64 (by omega) (by omega)]
  cases hdp : st.deep with
  | true =>
   rw [hdp, bb] at hr;rw [bb, hr, ba, Cm (by omega) (by omega), ba, ba]; rfl
  | false =>
   rw [hdp, bc] at hr
   rw [bc, hr, ba, Cm (by omega) (by omega), ba, ba]; rfl) (by
  rintro _ rec rfl;refine ⟨_, ?_, rfl⟩;unfold DS;dsimp only
  rw [bg (by omega), bc, List.take_length]) (n := FUEL) (by unfold FUEL; omega)
 exact e
theorem Ya (l : List Spt) (hl : l.length <= 1048576) : iter (DR l) FUEL (([] : List Ak), (0 : Int)) = some (l.map trS) := by
 obtain ⟨o, e, rfl⟩ := AU (b := DR l) (fun i x => x = ((l.take i).map trS, (i : Int))) (fun o => o = l.map trS) l.length (x0 := (([] : List Ak), (0 : Int))) rfl (by
  rintro i _ rec hi rfl;left;have hlen : ((l.take i).map trS).length <= 1048576 := by rw [List.length_map, List.length_take]; omega
  refine ⟨_, ?_, rfl⟩;unfold DR;dsimp only;rw [bf (by omega), bb, AE hi, ba, w64 (by omega) (by omega), Cm (by simp only [bi, bj]; omega) (by simp only [bi, bj]; omega), ba, List.take_succ_eq_append_getElem hi, List.map_append]
  rfl) (by
  rintro _ rec rfl;refine ⟨_, ?_, rfl⟩;unfold DR;dsimp only
  rw [bg (by omega), bc, List.take_length]) (n := FUEL) (by unfold FUEL; omega)
 exact e
theorem InvS.bnd {d : Ab} {l : List Spt} (hs : szN d <= 1048576) (h : InvS d l) : l.length <= 1048576 /\ ∀ x ∈ l, x.path.length <= 1048576 /\ x.node.Attrs.length <= 1048576 := by
 refine ⟨Nat.le_trans (NF h.dst h.v) hs, fun x hx => ?_⟩;have h1 := (h.v x hx).len;have h2 := Gq x.node;exact ⟨by omega, by omega⟩
def R5 : List Ag -> List Spt -> List Spt
 | [], l => l
 | st :: r, l => R5 r (IK st l)
theorem Zc {d : Ab} (hs : szN d <= 1048576) (x : List Ag × Int × Int) (hx : ∀ st ∈ x.1, OkS (szN d) st) (hlen : x.1.length <= 1048576) :
  ∃ o, iter (DV x) FUEL ([(⟨([] : List Int), d⟩ : Ah)], (0 : Int)) = some o /\ (match o with | .inl l => InvS d l /\ D9 x.1 [⟨[], d⟩] = l.map trS | .inr t => t = (D9 x.1 [⟨[], d⟩], 0, 0)) := by
 refine AU (b := DV x) (fun i y => y.2 = (i : Int) /\ InvS d y.1 /\ D9 x.1 [⟨[], d⟩] = D9 (x.1.drop i) y.1) _ x.1.length (x0 := ([(⟨([] : List Int), d⟩ : Ah)], (0 : Int))) ⟨rfl, ⟨List.pairwise_singleton _ _, fun y hy => ?_⟩, rfl⟩ ?_ ?_ (n := FUEL) (by unfold FUEL; omega)
 ·rw [List.mem_singleton.1 hy]; rfl
 ·rintro i ⟨l, _⟩ rec hi ⟨rfl, hI, hp⟩;simp only at hI hp;obtain ⟨b1, b2⟩ := hI.bnd hs;have hok := hx _ (bm hi);rw [List.drop_eq_getElem_cons hi] at hp;unfold DV;simp only [letJ];rw [bf (by omega), bb, AE hi, ba, w64 (by omega) (by omega)];rw [show ∀ (st : Ag) (r : List Ag), D9 (st :: r) l = if st.attr then U1 st l else D9 r (IK st l) from fun _ _ => rfl] at hp
  cases ha : x.1[i].attr with
  | true =>
   right;rw [ha, if_pos rfl] at hp;rw [bb, Wt _ _ b1 b2, ba];exact ⟨_, rfl, by rw [hp]⟩
  | false =>
   left;rw [ha, if_neg (by simp)] at hp;obtain ⟨s1, s2⟩ := Ol hs x.1[i] hI;have hl1 := YJ hs hok hI;have hout := VA l b1 fun y hy => (b2 y hy).1;refine ⟨(IK x.1[i] l, ((i + 1 : Nat) : Int)), ?_, rfl, s2, hp⟩;rw [bc];unfold stL at s1 hl1
   cases hd : x.1[i].deep with
   | true =>
    rw [hd, if_pos rfl] at s1 hl1;rw [bb, hout, ba, hl1, ba, s1, ba]; rfl
   | false =>
    rw [hd, if_neg (by simp)] at s1 hl1;rw [bc, hl1, ba, s1, ba]; rfl
 ·rintro ⟨l, _⟩ rec ⟨rfl, hI, hp⟩;simp only at hI hp;rw [List.drop_length] at hp;refine ⟨.inl l, ?_, hI, hp⟩;unfold DV;dsimp only;rw [bg (by omega), bc]
theorem NM {d : Ab} (hs : szN d <= 1048576) (q : List By8) (x : List Ag × Int × Int) (hr : C3 q = some x) (hx : ∀ st ∈ x.1, OkS (szN d) st) (hlen : x.1.length <= 1048576) :
  B4 d q = some (if x.2.2 ≠ 0 then ([], x.2.1, x.2.2) else if DE d = some 0 then (D9 x.1 [⟨[], d⟩], 0, 0) else ([], 0, (DE d).getD 0)) := by
 unfold B4;rw [hr, ba];by_cases h0 : x.2.2 = 0
 ·rw [show (x.2.2 != (0 : Int)) = false by simp [h0], bc, if_neg (by simpa using h0)];obtain ⟨r, hc, _⟩ := Ns d hs;rw [hc, ba];by_cases hr0 : r = 0
  ·subst hr0;rw [show ((0 : Int) != (0 : Int)) = false by simp, bc, if_pos rfl];simp only [letJ];obtain ⟨o, e, ho⟩ := Zc hs x hx hlen;rw [e, ba]
   cases o with
   | inr t => simp only at ho ⊢; rw [ho]
   | inl l =>
    obtain ⟨hI, hp⟩ := ho;simp only;rw [Ya l (hI.bnd hs).1, ba, hp]
  ·rw [show (r != (0 : Int)) = true by simpa using hr0, bb, if_neg (by simpa using hr0)]; rfl
 ·rw [show (x.2.2 != (0 : Int)) = true by simpa using h0, bb, if_pos h0]

set_option linter.unusedSimpArgs false
set_option linter.unusedVariables false
set_option maxRecDepth 20000
theorem Ph {y : Ab} : ∀ {l : List Ab} {x : Ab}, x ∈ l -> y ∈ Dn x -> y ∈ DM l
 | [], x, h, _ => by cases h
 | z :: l, x, h, hy => by
  simp only [DM, List.mem_append];rcases List.mem_cons.1 h with rfl | h
  ·exact .inl hy
  ·exact .inr (Ph h hy)
theorem Q6 : ∀ (p : List Int) (x y : Ab), atP x p = some y -> y ∈ Dn x
 | [], x, y, h => by
  simp only [atP, Option.some.injEq] at h; subst h;rw [F3]; exact List.mem_cons_self
 | s :: r, x, y, h => by
  simp only [atP] at h;split at h
  ·cases h
  ·obtain ⟨z, hz, h2⟩ := Option.bind_eq_some_iff.1 h;rw [F3];exact List.mem_cons_of_mem _ (Ph (List.mem_of_getElem? hz) (Q6 r z y h2))
theorem OG : ∀ {l : List Aj}, RiseA l -> l.Pairwise fun a b => QF a.Name b.Name < 0
 | [], _ => .nil
 | x :: l, h => by
  have hl : RiseA l := fun i hi => h (i + 1) (by simpa using hi);have ih := OG hl;refine .cons (fun y hy => ?_) ih
  cases l with
  | nil => cases hy
  | cons z l =>
   have h0 := h 0 (by simp);simp only [List.getElem_cons_zero, List.getElem_cons_succ] at h0;rcases List.mem_cons.1 hy with rfl | hy
   ·exact h0
   ·have h1 := (List.pairwise_cons.1 ih).1 y hy;have hc := Px;have t := hc.trans x.Name z.Name y.Name (by omega) (by omega);rcases Int.lt_or_eq_of_le t with t | t
    ·exact t
    ·exfalso;have e := hc.eqL z.Name t;have := hc.anti x.Name z.Name;have := hc.anti z.Name y.Name;omega
structure Stand (d : Ab) (l : List Ak) : Prop where
 s : l.Pairwise fun a b => GZ a b < 0
 v : ∀ t ∈ l, (Uj d t).2 = 0 /\ t.Steps.length <= 1048576
theorem RC {a b : Ak} (h : HT a.Steps b.Steps < 0) : GZ a b < 0 := by
 unfold GZ; rw [if_pos (by omega)]; exact h
theorem Wl {d : Ab} (hs : szN d <= 1048576) {l : List Spt} (h : InvS d l) : Stand d (l.map trS) := by
 refine ⟨?_, fun t ht => ?_⟩
 ·rw [List.pairwise_map];have hs' : l.Pairwise fun a b => HT a.path b.path < 0 := h.s;refine hs'.imp ?_;intro a b hh;exact RC (a := trS a) (b := trS b) hh
 ·obtain ⟨s, hm, rfl⟩ := List.mem_map.1 ht;have hv := h.v s hm;have hl := hv.len;refine ⟨?_, by show s.path.length <= _; omega⟩;unfold Uj;rw [show (trS s).Steps = s.path from rfl, show atP d s.path = some s.node from hv];simp only [trS, Bool.false_eq_true, if_false];split <;> rfl
theorem Rh {n : Aa} : ∀ {l : List Aj} {a : Aj}, a ∈ l -> a.Name = n -> ∃ v, V2 2 n l = some v
 | [], a, h, _ => by cases h
 | b :: l, a, h, e => by
  unfold V2;split
  ·exact ⟨_, rfl⟩
  ·rename_i hb;rcases List.mem_cons.1 h with rfl | h
   ·subst e;simp at hb
   ·exact Rh h e
theorem Uk {d : Ab} (hs : szN d <= 1048576) (hg : GoodT d) (st : Ag) {l : List Spt} (h : InvS d l) : Stand d (U1 st l) := by
 have hin : ∀ s ∈ l, s.node ∈ Dn d := fun s hm => Q6 _ _ _ (h.v s hm);refine ⟨?_, fun t ht => ?_⟩
 ·have hI := h.s;have hv := h.v;clear h
  induction l with
  | nil => exact .nil
  | cons s l ih =>
   obtain ⟨h1, h2⟩ := List.pairwise_cons.1 hI;unfold U1;rw [List.flatMap_cons];refine List.pairwise_append.2 ⟨?_, ih (fun x hx => hin x (List.mem_cons_of_mem _ hx)) h2 (fun x hx => hv x (List.mem_cons_of_mem _ hx)), ?_⟩
   ·unfold RY;rw [List.pairwise_map];refine ((OG (hg.up _ (hin s List.mem_cons_self))).sublist List.filter_sublist).imp fun {a b} hh => ?_;unfold GZ P4;simp only [Jt.refl, ne_eq, not_true_eq_false, if_false, Bool.and_self, if_true];exact hh
   ·intro a ha b hb;unfold RY at ha;obtain ⟨x, _, rfl⟩ := List.mem_map.1 ha;obtain ⟨t, ht, hb⟩ := List.mem_flatMap.1 hb;unfold RY at hb;obtain ⟨y, _, rfl⟩ := List.mem_map.1 hb;exact RC (h1 t ht)
 ·obtain ⟨s, hm, ht⟩ := List.mem_flatMap.1 ht;unfold RY at ht;obtain ⟨a, ha, rfl⟩ := List.mem_map.1 ht;have hv := h.v s hm;have hl := hv.len;refine ⟨?_, by show s.path.length <= _; omega⟩;have ha' := (List.mem_filter.1 ha).1;have hk : s.node.Kind = 2 := by
   refine Classical.byContradiction fun hk => ?_;rw [hg.el _ (hin s hm) hk] at ha'; cases ha'
  obtain ⟨v, hv2⟩ := Rh (n := a.Name) ha' rfl;unfold Uj;simp only [];rw [show atP d s.path = some s.node from hv];simp only [hk, hv2, if_true]
theorem Kb {d : Ab} (hs : szN d <= 1048576) (hg : GoodT d) : ∀ (r : List Ag) (l : List Spt), InvS d l -> Stand d (D9 r l)
 | [], l, h => Wl hs h
 | st :: r, l, h => by
  rw [show D9 (st :: r) l = if st.attr then U1 st l else D9 r (IK st l) from rfl];split
  ·exact Uk hs hg st h
  ·exact Kb hs hg r _ (Ol hs st h).2
theorem VQ (d : Ab) : InvS d [⟨[], d⟩] := ⟨List.pairwise_singleton _ _, fun y hy => by rw [List.mem_singleton.1 hy]; rfl⟩
structure RdOk (N : Nat) (q : List By8) (x : List Ag × Int × Int) : Prop where
 r : C3 q = some x
 e : x.2.2 ≠ 0 -> 0 <= x.2.1 /\ x.2.1 <= q.length
 st : ∀ st ∈ x.1, OkS N st
 l : x.1.length <= 1048576
theorem Zd {d : Ab} (hs : szN d <= 1048576) (st : Ag) {l : List Spt} (h : InvS d l) : (U1 st l).length <= 4398046511104 := by
 obtain ⟨b1, b2⟩ := h.bnd hs;have h1 := K7 (RY st) 1048576 l fun x hx => Nat.le_trans (RL st x) (b2 x hx).2;have h3 : l.length * 1048576 <= 1048576 * 1048576 := Nat.mul_le_mul_right _ b1;unfold U1;omega
theorem KT {d : Ab} (hs : szN d <= 1048576) : ∀ (r : List Ag) (l : List Spt), InvS d l -> (D9 r l).length <= 4398046511104
 | [], l, h => by
  have := (h.bnd hs).1;show (l.map trS).length <= _;rw [List.length_map]; omega
 | st :: r, l, h => by
  rw [show D9 (st :: r) l = if st.attr then U1 st l else D9 r (IK st l) from rfl];split
  ·exact Zd hs st h
  ·exact KT hs r _ (Ol hs st h).2
end Go.Proofs.YtmnbjcpikllknaaGreatDoor
