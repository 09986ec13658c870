/- Canon: what is written is read in one way: bytes, names, texts. No condition. -/
import Derived.Test.YtjofelloaofooaaGreatDoorX3
import Derived.Test.YtjofelloaofooaaGreatDoorWk
set_option linter.unusedSimpArgs false
set_option linter.unusedVariables false
set_option maxRecDepth 20000
namespace Go.Proofs.YtjofelloaofooaaGreatDoor
open Go.Proofs.Tryz
open Go.Lib (decodeL decodeN)
def nb (c : By8) : Prop := c ≠ 32 /\ c ≠ 33 /\ c ≠ 34 /\ c ≠ 47 /\ c ≠ 60 /\ c ≠ 61 /\ c ≠ 62 /\ c ≠ 63
theorem FZ {p : By8 -> Prop} : ∀ {a a' : List By8} {c c' : By8} {r r' : List By8}, (∀ x ∈ a, p x) -> (∀ x ∈ a', p x) -> ¬ p c -> ¬ p c' -> a ++ c :: r = a' ++ c' :: r' -> a = a' /\ c = c' /\ r = r'
 | [], [], c, c', r, r', _, _, _, _, e => by simp only [List.nil_append, List.cons.injEq] at e; exact ⟨rfl, e⟩
 | [], y :: a', c, c', r, r', _, h, hc, _, e => by
  simp only [List.nil_append, List.cons_append, List.cons.injEq] at e;exact absurd (h y List.mem_cons_self) (e.1 ▸ hc)
 | x :: a, [], c, c', r, r', h, _, _, hc, e => by
  simp only [List.nil_append, List.cons_append, List.cons.injEq] at e;exact absurd (h x List.mem_cons_self) (e.1 ▸ hc)
 | x :: a, y :: a', c, c', r, r', h, h', hc, hc', e => by
  simp only [List.cons_append, List.cons.injEq] at e;obtain ⟨e1, e2⟩ := e;obtain ⟨i1, i2⟩ := FZ (fun z hz => h z (List.mem_cons_of_mem _ hz)) (fun z hz => h' z (List.mem_cons_of_mem _ hz)) hc hc' e2;exact ⟨by rw [e1, i1], i2⟩
def Zu (l : List By8) : Nat := l.foldl (fun a c => a * 10 + (c.toNat - 48)) 0
theorem SK {k : Nat} (h : k < 10) : (UInt8.ofNat (48 + k)).toNat = 48 + k := by rw [UInt8.toNat_ofNat']; omega
theorem MM (u : Nat) : Zu (Lib.decDigits u) = u /\ ∀ c ∈ Lib.decDigits u, 48 <= c.toNat /\ c.toNat <= 57 := by
 induction u using Nat.strongRecOn with
 | _ u ih =>
  rw [Lib.decDigits];by_cases h : u < 10
  ·rw [dif_pos h];have := SK h;refine ⟨?_, fun c hc => ?_⟩
   ·unfold Zu; simp only [List.foldl_cons, List.foldl_nil]; omega
   ·rw [List.mem_singleton] at hc; subst hc; omega
  ·rw [dif_neg h];obtain ⟨i1, i2⟩ := ih (u / 10) (by omega);have := SK (k := u % 10) (by omega);refine ⟨?_, fun c hc => ?_⟩
   ·unfold Zu at i1 ⊢; simp only [List.foldl_append, List.foldl_cons, List.foldl_nil, i1]; omega
   ·rcases List.mem_append.1 hc with hc | hc
    ·exact i2 c hc
    ·rw [List.mem_singleton] at hc; subst hc; omega
theorem Uq {u v : Nat} (h : Lib.decDigits u = Lib.decDigits v) : u = v := by rw [<- (MM u).1, h, (MM v).1]
theorem Sb {i j : Nat} (h : JM i = JM j) : i = j := by
 unfold JM at h;have := Uq (List.cons.inj h).2;omega
theorem Pb {c : By8} {k : Nat} (hk : k < 256) (h : c.toNat ≠ k) : c ≠ UInt8.ofNat k := fun e => h (by rw [e, UInt8.toNat_ofNat']; omega)
theorem KX (i : Nat) : ∀ c ∈ JM i, nb c /\ c ≠ 58 := by
 intro c hc;unfold JM at hc;rcases List.mem_cons.1 hc with h | h
 ·subst h; unfold nb; decide
 ·have := (MM (i + 1)).2 c h;have k : ∀ m : Nat, m < 256 -> (m < 48 \/ 57 < m) -> c ≠ UInt8.ofNat m := fun m h1 h2 => Pb h1 (by omega);exact ⟨⟨k 32 (by omega) (by omega), k 33 (by omega) (by omega), k 34 (by omega) (by omega), k 47 (by omega) (by omega), k 60 (by omega) (by omega), k 61 (by omega) (by omega), k 62 (by omega) (by omega), k 63 (by omega) (by omega)⟩, k 58 (by omega) (by omega)⟩
def okL (l : List By8) : Prop := l ≠ [] /\ ∀ c ∈ l, nb c /\ c ≠ 58
theorem L8 (l : List By8) : ∀ n j, l.length <= j + n -> okN l n j = true -> ∀ k, j <= k -> k < l.length -> 128 <= (l.getD k 0).toNat \/ Kx ((l.getD k 0).toNat : Int) = true
 | 0, j, h, _, k, h1, h2 => by omega
 | n + 1, j, h, hok, k, h1, h2 => by
  obtain ⟨d1, d2, d3, d4⟩ := DN l j (by omega);simp only [okN, if_pos (show j < l.length by omega), Bool.and_eq_true] at hok;by_cases hk : k = j
  ·subst hk;by_cases h8 : (l.getD k 0).toNat < 128
   ·rw [d3 h8] at hok;exact .inr hok.2.1
   ·exact .inl (by omega)
  by_cases hk2 : k < j + (decodeL (l.drop j)).2
  ·have := d4 (k - j) (by omega) (by omega);rw [show j + (k - j) = k by omega] at this;exact .inl this
  ·exact L8 l n _ (by omega) hok.2.2.2 k (by omega) h2
theorem Ra {l : List By8} (h : Ho l = true) : okL l := by
 unfold Ho at h;simp only [Bool.and_eq_true, Bool.not_eq_true', Bool.or_eq_false_iff, decide_eq_false_iff_not] at h;refine ⟨h.1.1, fun c hc => ?_⟩;obtain ⟨k, hk, e⟩ := List.mem_iff_getElem.1 hc;have hb := L8 l l.length 0 (by omega) h.2 k (by omega) hk;have eg : l.getD k 0 = c := by rw [<- e]; simp [List.getD, hk]
 rw [eg] at hb;have key : ∀ m : Nat, m < 128 -> Kx (m : Int) = false -> c ≠ UInt8.ofNat m := fun m h1 h2 e => by
  have : c.toNat = m := by rw [e, UInt8.toNat_ofNat']; omega
  rw [this, h2] at hb;rcases hb with hb | hb
  ·omega
  ·cases hb
 exact ⟨⟨key 32 (by omega) (by decide), key 33 (by omega) (by decide), key 34 (by omega) (by decide), key 47 (by omega) (by decide), key 60 (by omega) (by decide), key 61 (by omega) (by decide), key 62 (by omega) (by decide), key 63 (by omega) (by decide)⟩, key 58 (by omega) (by decide)⟩
def okQ (ps : List (List By8)) (n : Ad) : Prop := (n.URI = [] \/ n.URI = HD \/ n.URI ∈ ps) /\ okL n.Local
theorem Im (ps : List (List By8)) {n : Ad} (h : okQ ps n) : nmX ps n ≠ [] /\ ∀ c ∈ nmX ps n, nb c := by
 obtain ⟨_, h1, h2⟩ := h;unfold nmX;split
 ·exact ⟨h1, fun c hc => (h2 c hc).1⟩
 split
 ·refine ⟨by simp, fun c hc => ?_⟩;rcases List.mem_append.1 hc with hc | hc
  ·simp only [List.mem_cons, List.not_mem_nil, or_false] at hc;rcases hc with rfl | rfl | rfl | rfl <;> (unfold nb; decide)
  ·exact (h2 c hc).1
 ·refine ⟨by simp, fun c hc => ?_⟩;rcases List.mem_append.1 hc with hc | hc
  ·rcases List.mem_append.1 hc with hc | hc
   ·exact (KX _ c hc).1
   ·rw [List.mem_singleton] at hc; subst hc; unfold nb; decide
  ·exact (h2 c hc).1
theorem Kv {ps : List (List By8)} {n : Ad} (h : okQ ps n) : (n.URI = [] /\ nmX ps n = n.Local) \/ (n.URI = HD /\ nmX ps n = [120, 109, 108] ++ 58 :: n.Local) \/ (n.URI ∈ ps /\ nmX ps n = JM (DA n.URI ps) ++ 58 :: n.Local) := by
 unfold nmX;by_cases e1 : n.URI = []
 ·exact .inl ⟨e1, by rw [if_pos e1]⟩
 by_cases e2 : n.URI = HD
 ·exact .inr (.inl ⟨e2, by rw [if_neg e1, if_pos e2]; rfl⟩)
 ·refine .inr (.inr ⟨?_, by rw [if_neg e1, if_neg e2]; simp⟩);rcases h.1 with h | h | h
  ·exact absurd h e1
  ·exact absurd h e2
  ·exact h
theorem H1 {a b l : List By8} (hl : okL l) (h : l = a ++ 58 :: b) : False := (hl.2 58 (by rw [h]; simp)).2 rfl
theorem Nc {i : Nat} {a b : List By8} (h : JM i ++ a = 120 :: b) : False := by unfold JM at h; simp at h
theorem PC {ps : List (List By8)} (hs : SS ps) {n m : Ad} (hn : okQ ps n) (hm : okQ ps m) (h : nmX ps n = nmX ps m) : n = m := by
 have eta : ∀ x y : Ad, x.URI = y.URI -> x.Local = y.Local -> x = y := fun x y h1 h2 => by cases x; cases y; simp_all
 rcases Kv hn with ⟨u, f⟩ | ⟨u, f⟩ | ⟨u, f⟩ <;> rcases Kv hm with ⟨v, g⟩ | ⟨v, g⟩ | ⟨v, g⟩ <;> rw [f, g] at h
 ·exact eta _ _ (u.trans v.symm) h
 ·exact (H1 hn.2 h).elim
 ·exact (H1 hn.2 h).elim
 ·exact (H1 hm.2 h.symm).elim
 ·exact eta _ _ (u.trans v.symm) (by simpa using h)
 ·exact (Nc h.symm).elim
 ·exact (H1 hm.2 h.symm).elim
 ·exact (Nc h).elim
 ·obtain ⟨e1, _, e2⟩ := FZ (p := fun c => c ≠ 58) (fun c hc => (KX _ c hc).2) (fun c hc => (KX _ c hc).2) (by simp) (by simp) h;have e3 := Sb e1;obtain ⟨h1, k1⟩ := N9 hs u;obtain ⟨h2, k2⟩ := N9 hs v;exact eta _ _ (by rw [<- k1, <- k2]; simp only [e3]) e2
theorem TP {a b x y : List By8} (h : a ++ x = b ++ y) : a.isPrefixOf b = true \/ b.isPrefixOf a = true := by
 rcases List.append_eq_append_iff.1 h with ⟨c, h1, _⟩ | ⟨c, h1, _⟩
 ·exact .inl (List.isPrefixOf_iff_prefix.2 ⟨c, h1.symm⟩)
 ·exact .inr (List.isPrefixOf_iff_prefix.2 ⟨c, h1.symm⟩)
structure Esc (f : By8 -> List By8) (q : By8) : Prop where
 pre : ∀ c d, (f c).isPrefixOf (f d) = true -> c = d
 head : ∀ c, ∃ h t, f c = h :: t /\ h ≠ q
theorem Np {f : By8 -> List By8} {q : By8} (hf : Esc f q) : ∀ {s s' r r' : List By8}, s.flatMap f ++ q :: r = s'.flatMap f ++ q :: r' -> s = s' /\ r = r'
 | [], [], r, r', e => by simpa using e
 | [], c :: s', r, r', e => by
  obtain ⟨h, t, e1, e2⟩ := hf.head c;simp only [List.flatMap_nil, List.nil_append, List.flatMap_cons, e1, List.cons_append, List.cons.injEq] at e;exact absurd e.1.symm e2
 | c :: s, [], r, r', e => by
  obtain ⟨h, t, e1, e2⟩ := hf.head c;simp only [List.flatMap_nil, List.nil_append, List.flatMap_cons, e1, List.cons_append, List.cons.injEq] at e;exact absurd e.1 e2
 | c :: s, d :: s', r, r', e => by
  simp only [List.flatMap_cons, List.append_assoc] at e;have hcd : c = d := by
   rcases TP e with h | h
   ·exact hf.pre _ _ h
   ·exact (hf.pre _ _ h).symm
  subst hcd;obtain ⟨i1, i2⟩ := Np hf (List.append_cancel_left e);exact ⟨by rw [i1], i2⟩
theorem L5 {f : By8 -> List By8} {q : By8} (h1 : ((List.range 256).all fun i => (List.range 256).all fun j => (i == j) || !((f (UInt8.ofNat i)).isPrefixOf (f (UInt8.ofNat j)))) = true)
  (h2 : ((List.range 256).all fun i => match f (UInt8.ofNat i) with | [] => false | h :: _ => h != q) = true) : Esc f q := by
 refine ⟨fun c d h => ?_, fun c => ?_⟩
 ·have := List.all_eq_true.1 (List.all_eq_true.1 h1 c.toNat (by simp; exact c.toNat_lt)) d.toNat (by simp; exact d.toNat_lt);simp only [UInt8.ofNat_toNat, h, Bool.not_true, Bool.or_false, beq_iff_eq] at this;exact UInt8.toNat_inj.1 this
 ·have := List.all_eq_true.1 h2 c.toNat (by simp; exact c.toNat_lt);simp only [UInt8.ofNat_toNat] at this
  cases e : f c with
  | nil => rw [e] at this; cases this
  | cons h t => rw [e] at this; exact ⟨h, t, rfl, by simpa using this⟩
theorem QF : Esc escT 60 := L5 (by kernel_rfl) (by kernel_rfl)
theorem Pr : Esc escQ 34 := L5 (by kernel_rfl) (by kernel_rfl)
def noPair (a b : By8) (t : List By8) : Prop := ∀ u v, t ≠ u ++ a :: b :: v
theorem noPair.tail {a b c : By8} {t : List By8} (h : noPair a b (c :: t)) : noPair a b t := fun u v e => h (c :: u) v (by rw [e]; rfl)
theorem LC {a b : By8} {t : List By8} (h : Lib.contains t [a, b] = false) : noPair a b t := by
 intro u v e;unfold Lib.contains at h;rcases Lib.index_spec t [a, b] with ⟨_, h2⟩ | ⟨i, h1, _⟩
 ·have := h2 u.length (by rw [e]; simp);unfold Lib.occAt at this;rw [e] at this;simp at this
 ·rw [h1] at h; simp at h
def noLast (a : By8) (t : List By8) : Prop := ∀ u, t ≠ u ++ [a]
theorem noLast.tail {a c : By8} {t : List By8} (h : noLast a (c :: t)) : noLast a t := fun u e => h (c :: u) (by rw [e]; rfl)
theorem QC {t : List By8} (h : I1 t = true) : noLast 45 t := by
 intro u e;unfold I1 at h;rw [e] at h;simp at h
theorem Q6 {a b : By8} : ∀ {t t' r r' : List By8}, noPair a b t -> noPair a b t' -> (a = b -> noLast a t /\ noLast a t') -> t ++ a :: b :: r = t' ++ a :: b :: r' -> t = t' /\ r = r'
 | [], [], r, r', _, _, _, e => by simpa using e
 | [], c :: t', r, r', _, h2, h3, e => by
  exfalso;simp only [List.nil_append, List.cons_append, List.cons.injEq] at e;obtain ⟨e1, e2⟩ := e;subst e1
  cases t' with
  | nil =>
   simp only [List.nil_append, List.cons.injEq] at e2;exact (h3 e2.1.symm).2 [] rfl
  | cons d t' =>
   simp only [List.cons_append, List.cons.injEq] at e2;exact h2 [] t' (by rw [<- e2.1]; rfl)
 | c :: t, [], r, r', h1, _, h3, e => by
  exfalso;simp only [List.nil_append, List.cons_append, List.cons.injEq] at e;obtain ⟨e1, e2⟩ := e;subst e1
  cases t with
  | nil =>
   simp only [List.nil_append, List.cons.injEq] at e2;exact (h3 e2.1).1 [] rfl
  | cons d t =>
   simp only [List.cons_append, List.cons.injEq] at e2;exact h1 [] t (by rw [e2.1]; rfl)
 | c :: t, d :: t', r, r', h1, h2, h3, e => by
  simp only [List.cons_append, List.cons.injEq] at e;obtain ⟨i1, i2⟩ := Q6 h1.tail h2.tail (fun hab => ⟨(h3 hab).1.tail, (h3 hab).2.tail⟩) e.2;exact ⟨by rw [e.1, i1], i2⟩

set_option linter.unusedSimpArgs false
set_option linter.unusedVariables false
set_option maxRecDepth 20000
theorem F8 {x y : Aa} (h1 : x.Kind = y.Kind) (h2 : x.Name = y.Name) (h3 : x.Attrs = y.Attrs) (h4 : x.Kids = y.Kids) (h5 : x.Text = y.Text) : x = y := by
 cases x; cases y; simp only at h1 h2 h3 h4 h5; subst h1; subst h2; subst h3; subst h4; subst h5; rfl
theorem G0 {x y : Ad} (h1 : x.URI = y.URI) (h2 : x.Local = y.Local) : x = y := by
 cases x; cases y; simp only at h1 h2; subst h1; subst h2; rfl
theorem Nq {x y : Ae} (h1 : x.Name = y.Name) (h2 : x.Value = y.Value) : x = y := by
 cases x; cases y; simp only at h1 h2; subst h1; subst h2; rfl
def Ww : List Aa -> Prop
 | [] => True
 | x :: l => (∀ y ∈ l.head?, x.Kind = 3 -> y.Kind ≠ 3) /\ Ww l
structure okR (ps : List (List By8)) (x : Aa) : Prop where
 kd : x.Kind = 2 \/ x.Kind = 3 \/ x.Kind = 4 \/ x.Kind = 5
 el : x.Kind = 2 -> okQ ps x.Name /\ (∀ a ∈ x.Attrs, okQ ps a.Name) /\ x.Text = []
 tx : x.Kind = 3 -> x.Text ≠ []
 cm : x.Kind = 4 -> noPair 45 45 x.Text /\ noLast 45 x.Text
 ins : x.Kind = 5 -> okL x.Name.Local /\ noPair 63 62 x.Text /\ x.Name.URI = []
 nm : x.Kind = 3 \/ x.Kind = 4 -> x.Name.URI = [] /\ x.Name.Local = []
 no : x.Kind ≠ 2 -> x.Attrs = [] /\ x.Kids = []
 adj : Ww x.Kids
def elX (ps : List (List By8)) (x : Aa) (r : List By8) : List By8 := Dv ps x.Attrs ++ 62 :: (shL ps x.Kids ++ 60 :: 47 :: (nmX ps x.Name ++ 62 :: r))
theorem sh3 (ps : List (List By8)) {x : Aa} (h : x.Kind = 3) (top : Bool) (r : List By8) : shN ps x top ++ r = x.Text.flatMap escT ++ r := by rw [Ik, if_pos h]
theorem sh4 (ps : List (List By8)) {x : Aa} (h : x.Kind = 4) (top : Bool) (r : List By8) : shN ps x top ++ r = 60 :: 33 :: 45 :: 45 :: (x.Text ++ 45 :: 45 :: 62 :: r) := by
 rw [Ik, if_neg (by omega), if_pos h]; simp
theorem sh5 (ps : List (List By8)) {x : Aa} (h : x.Kind = 5) (top : Bool) (r : List By8) : shN ps x top ++ r = 60 :: 63 :: (x.Name.Local ++ ((if x.Text = [] then [] else [32] ++ x.Text) ++ 63 :: 62 :: r)) := by
 rw [Ik, if_neg (by omega), if_neg (by omega), if_pos h]; simp
theorem sh2 (ps : List (List By8)) {x : Aa} (h : x.Kind = 2) (top : Bool) (r : List By8) : shN ps x top ++ r = 60 :: (nmX ps x.Name ++ ((if top then nsX ps ps.length else []) ++ elX ps x r)) := by
 rw [Ik, if_neg (by omega), if_neg (by omega), if_neg (by omega)]; unfold elX; simp
theorem Je {ps : List (List By8)} {x : Aa} (h : okR ps x) (top : Bool) (r : List By8) :
  (x.Kind = 3 /\ ∃ c t, shN ps x top ++ r = c :: t /\ c ≠ 60) \/ (x.Kind = 4 /\ ∃ t, shN ps x top ++ r = 60 :: 33 :: t) \/ (x.Kind = 5 /\ ∃ t, shN ps x top ++ r = 60 :: 63 :: t) \/ (x.Kind = 2 /\ ∃ c t, shN ps x top ++ r = 60 :: c :: t /\ nb c) := by
 rcases h.kd with k | k | k | k
 ·obtain ⟨g1, _⟩ := h.el k;obtain ⟨g1, g2⟩ := Im ps g1;refine .inr (.inr (.inr ⟨k, ?_⟩));rw [sh2 ps k]
  cases e : nmX ps x.Name with
  | nil => exact absurd e g1
  | cons c t => exact ⟨c, _, rfl, g2 c (by rw [e]; exact List.mem_cons_self)⟩
 ·refine .inl ⟨k, ?_⟩;rw [sh3 ps k]
  cases e : x.Text with
  | nil => exact absurd e (h.tx k)
  | cons c t =>
   obtain ⟨y, u, e1, e2⟩ := QF.head c;exact ⟨y, u ++ t.flatMap escT ++ r, by simp [e1], e2⟩
 ·exact .inr (.inl ⟨k, _, sh4 ps k top r⟩)
 ·exact .inr (.inr (.inl ⟨k, _, sh5 ps k top r⟩))
theorem Mr {ps ps' : List (List By8)} {x x' : Aa} (h : okR ps x) (h' : okR ps' x') (top : Bool) {r r' : List By8} (e : shN ps x top ++ r = shN ps' x' top ++ r') : x.Kind = x'.Kind := by
 rcases Je h top r with ⟨k, c, t, e1, n1⟩ | ⟨k, t, e1⟩ | ⟨k, t, e1⟩ | ⟨k, c, t, e1, n1⟩ <;> rcases Je h' top r' with ⟨k', c', t', e2, n2⟩ | ⟨k', t', e2⟩ | ⟨k', t', e2⟩ | ⟨k', c', t', e2, n2⟩ <;> rw [e1, e2] at e <;> simp only [List.cons.injEq, true_and] at e
 ·omega
 ·exact absurd e.1 n1
 ·exact absurd e.1 n1
 ·exact absurd e.1 n1
 ·exact absurd e.1.symm n2
 ·omega
 ·exact absurd e.1 (by decide)
 ·exact absurd e.1.symm n2.2.1
 ·exact absurd e.1.symm n2
 ·exact absurd e.1 (by decide)
 ·omega
 ·exact absurd e.1.symm n2.2.2.2.2.2.2.2
 ·exact absurd e.1.symm n2
 ·exact absurd e.1 n1.2.1
 ·exact absurd e.1 n1.2.2.2.2.2.2.2
 ·omega
theorem Hq {c : By8} (h : c = 32 \/ c = 34 \/ c = 61 \/ c = 62 \/ c = 63) : ¬ nb c := by
 rintro ⟨h1, h2, h3, h4, h5, h6, h7, h8⟩;rcases h with h | h | h | h | h <;> contradiction
theorem Pz {ps ps' : List (List By8)} {x x' : Aa} (h : okR ps x) (h' : okR ps' x') (top : Bool) {r r' : List By8} (hk : x.Kind ≠ 2) (hr : x.Kind = 3 -> ∃ t, r = 60 :: t) (hr' : x'.Kind = 3 -> ∃ t, r' = 60 :: t)
  (e : shN ps x top ++ r = shN ps' x' top ++ r') : x = x' /\ r = r' := by
 have ke := Mr h h' top e;have n1 := h.no hk;have n2 := h'.no (by omega);rcases h.kd with k | k | k | k
 ·omega
 ·have k' : x'.Kind = 3 := by omega
  obtain ⟨t, rfl⟩ := hr k;obtain ⟨t', rfl⟩ := hr' k';rw [sh3 ps k, sh3 ps' k'] at e;obtain ⟨e1, e2⟩ := Np QF e;have m1 := h.nm (.inl k);have m2 := h'.nm (.inl k');exact ⟨F8 ke (G0 (by rw [m1.1, m2.1]) (by rw [m1.2, m2.2])) (by rw [n1.1, n2.1]) (by rw [n1.2, n2.2]) e1, by rw [e2]⟩
 ·have k' : x'.Kind = 4 := by omega
  rw [sh4 ps k, sh4 ps' k'] at e;simp only [List.cons.injEq, true_and] at e;obtain ⟨e1, e2⟩ := Q6 (h.cm k).1 (h'.cm k').1 (fun _ => ⟨(h.cm k).2, (h'.cm k').2⟩) e;simp only [List.cons.injEq, true_and] at e2;have m1 := h.nm (.inr k);have m2 := h'.nm (.inr k');exact ⟨F8 ke (G0 (by rw [m1.1, m2.1]) (by rw [m1.2, m2.2])) (by rw [n1.1, n2.1]) (by rw [n1.2, n2.2]) e1, e2⟩
 ·have k' : x'.Kind = 5 := by omega
  rw [sh5 ps k, sh5 ps' k'] at e;simp only [List.cons.injEq, true_and] at e;obtain ⟨a1, a2, a3⟩ := h.ins k;obtain ⟨b1, b2, b3⟩ := h'.ins k';have p1 : ∀ c ∈ x.Name.Local, nb c := fun c hc => (a1.2 c hc).1;have p2 : ∀ c ∈ x'.Name.Local, nb c := fun c hc => (b1.2 c hc).1;have fin : x.Name.Local = x'.Name.Local -> x.Text = x'.Text -> x = x' := fun g1 g2 => F8 ke (G0 (by rw [a3, b3]) g1) (by rw [n1.1, n2.1]) (by rw [n1.2, n2.2]) g2;by_cases t1 : x.Text = [] <;> by_cases t2 : x'.Text = []
  ·rw [if_pos t1, if_pos t2] at e;obtain ⟨e1, _, e2⟩ := FZ p1 p2 (Hq (by decide)) (Hq (by decide)) e;simp only [List.cons.injEq, true_and] at e2;exact ⟨fin e1 (by rw [t1, t2]), e2⟩
  ·rw [if_pos t1, if_neg t2] at e;obtain ⟨_, e1, _⟩ := FZ p1 p2 (Hq (by decide)) (Hq (by decide)) e;exact absurd e1 (by decide)
  ·rw [if_neg t1, if_pos t2] at e;obtain ⟨_, e1, _⟩ := FZ p1 p2 (Hq (by decide)) (Hq (by decide)) e;exact absurd e1 (by decide)
  ·rw [if_neg t1, if_neg t2] at e;obtain ⟨e1, _, e2⟩ := FZ p1 p2 (Hq (by decide)) (Hq (by decide)) e;obtain ⟨e3, e4⟩ := Q6 a2 b2 (fun h => absurd h (by decide)) e2;exact ⟨fin e1 e3, e4⟩
theorem FN (ps : List (List By8)) (a : Ae) (l : List Ae) (r : List By8) : Dv ps (a :: l) ++ r = 32 :: (nmX ps a.Name ++ 61 :: 34 :: (a.Value.flatMap escQ ++ 34 :: (Dv ps l ++ r))) := by
 unfold Dv; rw [List.flatMap_cons]; unfold Tv; simp
theorem QZ {ps : List (List By8)} (hs : SS ps) : ∀ {l l' : List Ae} {r r' : List By8}, (∀ a ∈ l, okQ ps a.Name) -> (∀ a ∈ l', okQ ps a.Name) -> Dv ps l ++ 62 :: r = Dv ps l' ++ 62 :: r' -> l = l' /\ r = r'
 | [], [], r, r', _, _, e => by simpa [Dv] using e
 | [], a :: l', r, r', _, _, e => by
  rw [FN] at e;simp only [Dv, List.flatMap_nil, List.nil_append, List.cons.injEq] at e;exact absurd e.1 (by decide)
 | a :: l, [], r, r', _, _, e => by
  rw [FN] at e;simp only [Dv, List.flatMap_nil, List.nil_append, List.cons.injEq] at e;exact absurd e.1 (by decide)
 | a :: l, b :: l', r, r', h, h', e => by
  rw [FN, FN] at e;simp only [List.cons.injEq, true_and] at e;have q1 := h a List.mem_cons_self;have q2 := h' b List.mem_cons_self;obtain ⟨e1, _, e2⟩ := FZ (Im ps q1).2 (Im ps q2).2 (Hq (by decide)) (Hq (by decide)) e;simp only [List.cons.injEq, true_and] at e2;obtain ⟨e3, e4⟩ := Np Pr e2;obtain ⟨e5, e6⟩ := QZ hs (fun a ha => h a (List.mem_cons_of_mem _ ha)) (fun a ha => h' a (List.mem_cons_of_mem _ ha)) e4;exact ⟨by rw [e5, Nq (PC hs q1 q2 e1) e3], e6⟩
theorem KV (ps : List (List By8)) (x : Aa) (r : List By8) : ∃ c t, elX ps x r = c :: t /\ ¬ nb c := by
 unfold elX
 cases x.Attrs with
 | nil => exact ⟨62, _, rfl, Hq (by decide)⟩
 | cons a l => exact ⟨32, _, by rw [FN], Hq (by decide)⟩
theorem NC {a a' y y' : List By8} (h : ∀ c ∈ a, nb c) (h' : ∀ c ∈ a', nb c) (hy : ∃ c t, y = c :: t /\ ¬ nb c) (hy' : ∃ c t, y' = c :: t /\ ¬ nb c) (e : a ++ y = a' ++ y') : a = a' /\ y = y' := by
 obtain ⟨c, t, rfl, n1⟩ := hy;obtain ⟨c', t', rfl, n2⟩ := hy';obtain ⟨e1, e2, e3⟩ := FZ h h' n1 n2 e;exact ⟨e1, by rw [e2, e3]⟩
theorem Ta {ps : List (List By8)} (hs : SS ps) {x x' : Aa} (h : okR ps x) (h' : okR ps x') (k : x.Kind = 2) (k' : x'.Kind = 2) {r r' : List By8} (en : nmX ps x.Name = nmX ps x'.Name) (e : elX ps x r = elX ps x' r')
  (hl : ∀ R R', shL ps x.Kids ++ 60 :: 47 :: R = shL ps x'.Kids ++ 60 :: 47 :: R' -> x.Kids = x'.Kids /\ R = R') : x = x' /\ r = r' := by
 obtain ⟨a1, a2, a3⟩ := h.el k;obtain ⟨b1, b2, b3⟩ := h'.el k';unfold elX at e;obtain ⟨e1, e2⟩ := QZ hs a2 b2 e;obtain ⟨e3, e4⟩ := hl _ _ e2;rw [en] at e4;have e5 := List.append_cancel_left e4;simp only [List.cons.injEq, true_and] at e5;exact ⟨F8 (by omega) (PC hs a1 b1 en) e1 e3 (by rw [a3, b3]), e5⟩
theorem IY {x : Aa} {l : List Aa} {p : Aa -> Prop} (h : ∀ y ∈ BJ (x :: l), p y) : p x /\ (∀ y ∈ BJ x.Kids, p y) /\ ∀ y ∈ BJ l, p y := by
 simp only [BJ, List.mem_append] at h;refine ⟨h x (.inl (by rw [Bn]; exact List.mem_cons_self)), fun y hy => h y (.inl (by rw [Bn]; exact List.mem_cons_of_mem _ hy)), fun y hy => h y (.inr hy)⟩
theorem Td {ps : List (List By8)} {l : List Aa} (R : List By8) (h : ∀ y ∈ BJ l, okR ps y) (hn : ∀ y ∈ l.head?, y.Kind ≠ 3) : ∃ t, shL ps l ++ 60 :: 47 :: R = 60 :: t := by
 cases l with
 | nil => exact ⟨_, rfl⟩
 | cons y l =>
  have hy := (IY h).1;simp only [shL, List.append_assoc];rcases Je hy false (shL ps l ++ 60 :: 47 :: R) with ⟨k, _⟩ | ⟨k, t, e⟩ | ⟨k, t, e⟩ | ⟨k, c, t, e, _⟩
  ·exact absurd k (hn y rfl)
  all_goals exact ⟨_, e⟩
theorem Mn {ps : List (List By8)} (hs : SS ps) : ∀ (n : Nat) (l l' : List Aa) (R R' : List By8), FD l < n -> (∀ y ∈ BJ l, okR ps y) -> (∀ y ∈ BJ l', okR ps y) -> Ww l -> Ww l' ->
  shL ps l ++ 60 :: 47 :: R = shL ps l' ++ 60 :: 47 :: R' -> l = l' /\ R = R'
 | 0, _, _, _, _, h, _, _, _, _, _ => by omega
 | n + 1, [], [], R, R', _, _, _, _, _, e => by simpa [shL] using e
 | n + 1, [], x :: l', R, R', _, _, h', _, _, e => by
  exfalso;simp only [shL, List.nil_append, List.append_assoc] at e;rcases Je (IY h').1 false (shL ps l' ++ 60 :: 47 :: R') with ⟨k, c, t, e1, n1⟩ | ⟨k, t, e1⟩ | ⟨k, t, e1⟩ | ⟨k, c, t, e1, n1⟩ <;> rw [e1] at e <;> simp only [List.cons.injEq, true_and] at e
  ·exact n1 e.1.symm
  ·exact absurd e.1 (by decide)
  ·exact absurd e.1 (by decide)
  ·exact n1.2.2.2.1 e.1.symm
 | n + 1, x :: l, [], R, R', _, h, _, _, _, e => by
  exfalso;simp only [shL, List.nil_append, List.append_assoc] at e;rcases Je (IY h).1 false (shL ps l ++ 60 :: 47 :: R) with ⟨k, c, t, e1, n1⟩ | ⟨k, t, e1⟩ | ⟨k, t, e1⟩ | ⟨k, c, t, e1, n1⟩ <;> rw [e1] at e <;> simp only [List.cons.injEq, true_and] at e
  ·exact n1 e.1
  ·exact absurd e.1 (by decide)
  ·exact absurd e.1 (by decide)
  ·exact n1.2.2.2.1 e.1
 | n + 1, x :: l, x' :: l', R, R', hz, h, h', hj, hj', e => by
  obtain ⟨g1, g2, g3⟩ := IY h;obtain ⟨f1, f2, f3⟩ := IY h';have hz : szN x + FD l < n + 1 := hz;have hp := Lb x;have hk := D9 x;simp only [shL, List.append_assoc] at e;have ke := Mr g1 f1 false e;have key : x = x' /\ shL ps l ++ 60 :: 47 :: R = shL ps l' ++ 60 :: 47 :: R' := by
   by_cases k : x.Kind = 2
   ·have k' : x'.Kind = 2 := by omega
    rw [sh2 ps k, sh2 ps k'] at e;simp only [Bool.false_eq_true, if_false, List.nil_append, List.cons.injEq, true_and] at e;obtain ⟨e1, e2⟩ := NC (Im ps (g1.el k).1).2 (Im ps (f1.el k').1).2 (KV _ _ _) (KV _ _ _) e;exact Ta hs g1 f1 k k' e1 e2 fun A A' eA => Mn hs n x.Kids x'.Kids A A' (by omega) g2 f2 g1.adj f1.adj eA
   ·exact Pz g1 f1 false k (fun k3 => Td R g3 fun y hy => hj.1 y hy k3) (fun k3 => Td R' f3 fun y hy => hj'.1 y hy k3) e
  obtain ⟨e1, e2⟩ := Mn hs n l l' R R' (by omega) g3 f3 hj.2 hj'.2 key.2;exact ⟨by rw [key.1, e1], e2⟩
def nsL : Nat -> List (List By8) -> List By8
 | _, [] => []
 | k, p :: l => 32 :: ([120, 109, 108, 110, 115] ++ 58 :: (JM k ++ 61 :: 34 :: (p.flatMap escQ ++ 34 :: nsL (k + 1) l)))
theorem NK (ps : List (List By8)) : ∀ (l : List (List By8)) (k : Nat), ps.drop k = l -> (List.range' k l.length).flatMap (KU ps) = nsL k l
 | [], k, _ => by simp [nsL]
 | p :: l, k, h => by
  have hk : k < ps.length := by
   have := congrArg List.length h; simp only [List.length_drop, bi] at this; omega
  have h1 : ps.getD k [] = p := by
   rw [List.drop_eq_getElem_cons hk] at h;injection h with h _
   simp [List.getD, hk, h]
  have h2 : ps.drop (k + 1) = l := by
   rw [List.drop_eq_getElem_cons hk] at h;injection h
  rw [bi, List.range'_succ, List.flatMap_cons, NK ps l (k + 1) h2];unfold KU;rw [h1];simp [nsL]
theorem Ty (ps : List (List By8)) : nsX ps ps.length = nsL 0 ps := by
 unfold nsX;rw [List.range_eq_range', NK ps ps 0 rfl]
theorem QP {ps : List (List By8)} {n : Ad} (h : okQ ps n) {b : List By8} (e : nmX ps n = [120, 109, 108, 110, 115] ++ 58 :: b) : False := by
 rcases Kv h with ⟨_, f⟩ | ⟨_, f⟩ | ⟨_, f⟩ <;> rw [f] at e
 ·exact H1 h.2 e
 ·simp at e
 ·exact Nc e
theorem W3 {ps : List (List By8)} {x : Aa} (h : ∀ a ∈ x.Attrs, okQ ps a.Name) {r y : List By8} {k : Nat} (e : elX ps x r = 32 :: ([120, 109, 108, 110, 115] ++ 58 :: (JM k ++ 61 :: y))) : False := by
 unfold elX at e
 cases ha : x.Attrs with
 | nil =>
  rw [ha] at e;simp only [Dv, List.flatMap_nil, List.nil_append, List.cons.injEq] at e;exact absurd e.1 (by decide)
 | cons a l =>
  rw [ha, FN] at e;simp only [List.cons.injEq, true_and] at e;have q := h a (by rw [ha]; exact List.mem_cons_self);have hb : ∀ c ∈ ([120, 109, 108, 110, 115] : List By8) ++ 58 :: JM k, nb c := by
   intro c hc;rcases List.mem_append.1 hc with hc | hc
   ·simp only [List.mem_cons, List.not_mem_nil, or_false] at hc;rcases hc with rfl | rfl | rfl | rfl | rfl <;> (unfold nb; decide)
   ·rcases List.mem_cons.1 hc with rfl | hc
    ·unfold nb; decide
    ·exact (KX k c hc).1
  have e' : nmX ps a.Name ++ 61 :: (34 :: (a.Value.flatMap escQ ++ 34 :: (Dv ps l ++ 62 :: (shL ps x.Kids ++ 60 :: 47 :: (nmX ps x.Name ++ 62 :: r))))) = ([120, 109, 108, 110, 115] ++ 58 :: JM k) ++ 61 :: y := by rw [e]; simp
  obtain ⟨e1, _⟩ := FZ (Im ps q).2 hb (Hq (by decide)) (Hq (by decide)) e';exact QP q e1
theorem Xq {ps ps' : List (List By8)} {x x' : Aa} (h : ∀ a ∈ x.Attrs, okQ ps a.Name) (h' : ∀ a ∈ x'.Attrs, okQ ps' a.Name) {r r' : List By8} : ∀ (l l' : List (List By8)) (k : Nat), nsL k l ++ elX ps x r = nsL k l' ++ elX ps' x' r' -> l = l' /\ elX ps x r = elX ps' x' r'
 | [], [], k, e => ⟨rfl, e⟩
 | [], p :: l', k, e => by
  simp only [nsL, List.nil_append, List.cons_append, List.append_assoc] at e;exact (W3 h (y := 34 :: (p.flatMap escQ ++ 34 :: (nsL (k + 1) l' ++ elX ps' x' r'))) (k := k) (by rw [e]; simp)).elim
 | p :: l, [], k, e => by
  simp only [nsL, List.nil_append, List.cons_append, List.append_assoc] at e;exact (W3 h' (y := 34 :: (p.flatMap escQ ++ 34 :: (nsL (k + 1) l ++ elX ps x r))) (k := k) (by rw [<- e]; simp)).elim
 | p :: l, p' :: l', k, e => by
  simp only [nsL, List.cons_append, List.append_assoc, List.cons.injEq, true_and, List.nil_append] at e;have e1 := List.append_cancel_left e;simp only [List.cons.injEq, true_and] at e1;obtain ⟨e2, e3⟩ := Np Pr e1;obtain ⟨e4, e5⟩ := Xq h h' l l' (k + 1) e3;exact ⟨by rw [e2, e4], e5⟩
theorem PF (ps : List (List By8)) (x : Aa) (r : List By8) : ∃ c t, nsX ps ps.length ++ elX ps x r = c :: t /\ ¬ nb c := by
 rw [Ty]
 cases ps with
 | nil => exact KV _ _ _
 | cons p l => exact ⟨32, _, rfl, Hq (by decide)⟩
theorem Wg {ps ps' : List (List By8)} (hs : SS ps) {x x' : Aa} (h : ∀ y ∈ AE x, okR ps y) (h' : ∀ y ∈ AE x', okR ps' y) {r r' : List By8} (n3 : x.Kind ≠ 3) (e : shN ps x true ++ r = shN ps' x' true ++ r') : x = x' /\ r = r' := by
 have g1 := h x (by rw [Bn]; exact List.mem_cons_self);have f1 := h' x' (by rw [Bn]; exact List.mem_cons_self);have ke := Mr g1 f1 true e;by_cases k : x.Kind = 2
 ·have k' : x'.Kind = 2 := by omega
  rw [sh2 ps k, sh2 ps' k'] at e;simp only [if_true, List.cons.injEq, true_and] at e;obtain ⟨e1, e2⟩ := NC (Im ps (g1.el k).1).2 (Im ps' (f1.el k').1).2 (PF _ _ _) (PF _ _ _) e;rw [Ty, Ty] at e2;obtain ⟨e3, e4⟩ := Xq (g1.el k).2.1 (f1.el k').2.1 ps ps' 0 e2;subst e3;exact Ta hs g1 f1 k k' e1 e4 fun A A' eA => Mn hs (FD x.Kids + 1) x.Kids x'.Kids A A' (by omega) (fun y hy => h y (by rw [Bn]; exact List.mem_cons_of_mem _ hy)) (fun y hy => h' y (by rw [Bn]; exact List.mem_cons_of_mem _ hy)) g1.adj f1.adj eA
 ·exact Pz g1 f1 true k (fun k3 => absurd k3 n3) (fun k3 => absurd (ke.trans k3) n3) e
theorem SP {ps ps' : List (List By8)} (hs : SS ps) : ∀ {l l' : List Aa}, (∀ y ∈ BJ l, okR ps y) -> (∀ y ∈ BJ l', okR ps' y) -> (∀ y ∈ l, y.Kind ≠ 3) -> FB ps l = FB ps' l' -> l = l'
 | [], [], _, _, _, _ => rfl
 | [], y :: l', _, _, _, e => by unfold FB at e; simp at e
 | y :: l, [], _, _, _, e => by unfold FB at e; simp at e
 | x :: l, x' :: l', h, h', h3, e => by
  simp only [BJ, List.mem_append] at h h';simp only [FB, List.flatMap_cons, List.append_assoc] at e;obtain ⟨e1, e2⟩ := Wg hs (fun y hy => h y (.inl hy)) (fun y hy => h' y (.inl hy)) (h3 x List.mem_cons_self) e;simp only [List.cons_append, List.nil_append, List.cons.injEq, true_and] at e2;have := SP hs (fun y hy => h y (.inr hy)) (fun y hy => h' y (.inr hy)) (fun y hy => h3 y (List.mem_cons_of_mem _ hy)) e2;rw [e1, this]

set_option linter.unusedSimpArgs false
set_option linter.unusedVariables false
set_option maxRecDepth 20000
theorem Aaj : ∀ (a b c d e f g : Bool) (r : Int), Uj a b c d e f g r = 0 -> a = true /\ d = true /\ g = true := by
 intro a b c d e f g r h;unfold Uj at h;cases a <;> cases b <;> cases c <;> cases d <;> cases e <;> cases f <;> cases g <;> simp at h ⊢
theorem Rf {d : Aa} (hd : szN d <= 1049600) (h : AQ d = some 0) : d.Kind = 1 /\ (∀ y ∈ AE d, EV y = true) /\ (∀ y ∈ AE d, nmP y = true) /\ (∀ y ∈ AE d, txP y = true) := by
 by_cases h1 : d.Kind = 1
 ·obtain ⟨r, e1, e2⟩ := MF hd h1;have e3 := M9 hd h1 e1;rw [h] at e3;injection e3 with e3
  obtain ⟨a1, a2, a3⟩ := Aaj _ _ _ _ _ _ _ _ e3.symm;exact ⟨h1, fun y hy => List.all_eq_true.1 a1 y hy, fun y hy => List.all_eq_true.1 a2 y hy, fun y hy => List.all_eq_true.1 a3 y hy⟩
 ·exfalso;unfold AQ at h;rw [Jr d hd, show (d.Kind != (1 : Int)) = true by simpa using h1] at h;simp only [ba, AA, bb] at h;cases h
theorem S1 : ∀ l : List Aa, (∀ i, 1 <= i -> i < l.length -> kAt l i = true) -> Ww l
 | [], _ => trivial
 | [x], _ => ⟨(fun y hy => by cases hy), trivial⟩
 | x :: y :: l, h => by
  refine ⟨fun z hz k3 k4 => ?_, S1 (y :: l) fun i h1 h2 => ?_⟩
  ·simp only [List.head?_cons, Option.mem_def, Option.some.injEq] at hz;subst hz;have := h 1 (by omega) (by simp);unfold kAt at this;simp only [List.getD_cons_succ, List.getD_cons_zero, Nat.sub_self, k3, k4] at this;simp at this
  ·have := h (i + 1) (by omega) (by simp at h2 ⊢; omega);unfold kAt at this ⊢;obtain ⟨j, rfl⟩ : ∃ j, i = j + 1 := ⟨i - 1, by omega⟩
   simpa using this
theorem SW {d : Aa} (hd : szN d <= 1049600) (h : AQ d = some 0) : ∀ y ∈ BJ d.Kids, okR (PX d) y := by
 intro y hy;obtain ⟨_, hk, hn, ht⟩ := Rf hd h;have hyd : y ∈ AE d := by rw [Bn]; exact List.mem_cons_of_mem _ hy
 obtain ⟨o1, o2, _, _, _, o3⟩ := Qh hd hk y hy;have kv := hk y hyd;have nv := hn y hyd;have tv := ht y hyd;unfold EV Oc Ii at kv;unfold nmP at nv;unfold txP Sl at tv;simp only [Bool.and_eq_true, Bool.or_eq_true, Bool.not_eq_true', beq_eq_false_iff_ne, beq_iff_eq, List.all_eq_true] at nv;rw [Bool.and_eq_true] at kv tv;have kv2 := kv.2;have tv2 := tv.2;refine ⟨o3, fun k => ?_, fun k => ?_, fun k => ?_, fun k => ?_, fun k => ?_, fun k => ?_, ?_⟩
 ·rw [if_neg (by omega), if_pos k, beq_iff_eq] at kv2;have c1 : EM y.Name = true := nv.1.1.resolve_left fun h => h k;unfold EM at c1;simp only [Bool.and_eq_true] at c1;refine ⟨⟨o1.1, Ra c1.1.1.1⟩, fun a ha => ⟨(o2 a ha).1.1, ?_⟩, kv2⟩;have c2 := nv.1.2 a ha;unfold RX EM at c2;simp only [Bool.and_eq_true] at c2;exact Ra c2.1.1.1.1
 ·rw [if_pos k] at tv2;simpa using tv2
 ·rw [if_neg (by omega), if_pos k] at tv2;simp only [Bool.and_eq_true, Bool.not_eq_true'] at tv2;exact ⟨LC tv2.1.1, QC tv2.2⟩
 ·rw [if_neg (by omega), if_neg (by omega), if_pos k] at tv2;rw [if_neg (by omega), if_neg (by omega), if_neg (by omega), if_pos k] at kv2;simp only [Bool.and_eq_true, Bool.not_eq_true', beq_iff_eq] at tv2 kv2;have c1 : Ho y.Name.Local = true := (nv.2.resolve_left fun h => h k).1;exact ⟨Ra c1, LC tv2.1.1, kv2.1.1⟩
 ·rw [if_neg (by omega), if_neg (by omega), if_pos k] at kv2;simp only [Bool.and_eq_true, beq_iff_eq] at kv2;exact kv2.1.1
 ·rcases o3 with e | e | e | e
  ·exact absurd e k
  ·rw [if_neg (by omega), if_neg (by omega), if_pos (.inl e)] at kv2;simp only [Bool.and_eq_true, List.isEmpty_iff] at kv2;exact ⟨kv2.1.2, kv2.2⟩
  ·rw [if_neg (by omega), if_neg (by omega), if_pos (.inr e)] at kv2;simp only [Bool.and_eq_true, List.isEmpty_iff] at kv2;exact ⟨kv2.1.2, kv2.2⟩
  ·rw [if_neg (by omega), if_neg (by omega), if_neg (by omega), if_pos e] at kv2;simp only [Bool.and_eq_true, List.isEmpty_iff] at kv2;exact ⟨kv2.1.2, kv2.2⟩
 ·refine S1 _ fun i h1 h2 => List.all_eq_true.1 tv.1 i ?_;rw [List.mem_range'_1]; omega
theorem LD {d : Aa} (hd : szN d <= 1049600) (h : AQ d = some 0) : d.Name.URI = [] /\ d.Name.Local = [] /\ d.Attrs = [] /\ d.Text = [] /\ ∀ y ∈ d.Kids, y.Kind ≠ 3 := by
 obtain ⟨h1, hk, _⟩ := Rf hd h;have kv := hk d (by rw [Bn]; exact List.mem_cons_self);unfold EV Oc Ii at kv;rw [if_pos h1] at kv;simp only [Bool.and_eq_true, beq_iff_eq, List.isEmpty_iff, List.all_eq_true] at kv;obtain ⟨k1, ⟨⟨k2, k3⟩, k4⟩, k5⟩ := kv;refine ⟨k2, k3, k5, k4, fun y hy e => ?_⟩;have := k1 y hy;unfold HM HF at this;rw [h1, e] at this;simp at this
theorem Qa {a b : Aa} (ha : szN a <= 1049600) (hb : szN b <= 1049600) (ca : AQ a = some 0) (cb : AQ b = some 0) (e : FB (PX a) a.Kids = FB (PX b) b.Kids) : a = b := by
 obtain ⟨a1, a2, a3, a4, a5⟩ := LD ha ca;obtain ⟨b1, b2, b3, b4, b5⟩ := LD hb cb;have := SP (PX_ss a) (SW ha ca) (SW hb cb) a5 e;exact F8 ((Rf ha ca).1.trans (Rf hb cb).1.symm) (G0 (by rw [a1, b1]) (by rw [a2, b2])) (by rw [a3, b3]) this (by rw [a4, b4])

set_option linter.unusedSimpArgs false
set_option linter.unusedVariables false
set_option maxRecDepth 20000
theorem KQ {α : Type} (l m : List α) (hlen : l.length = m.length) (hL : l.length <= 1049600) (q : α -> α -> Option Bool) (hq : ∀ x ∈ l, ∀ y ∈ m, (q x y = some true /\ x = y) \/ (q x y = some false /\ x ≠ y)) {b : (Int -> Option (Unit ⊕ Bool)) -> Int -> Option (Unit ⊕ Bool)}
  (hs : ∀ rec (i : Nat) (h : i < l.length) (h' : i < m.length), b rec (i : Int) = (q l[i] m[i]).bind fun z => cond (!z) (some (.inr false)) (rec (IntKind.wrap .i64 ((i : Int) + 1)))) (he : ∀ rec, b rec (l.length : Int) = some (.inl ())) :
  (iter b FUEL (0 : Int) = some (.inl ()) /\ l = m) \/ (iter b FUEL (0 : Int) = some (.inr false) /\ l ≠ m) := by
 obtain ⟨o, e, hR⟩ := AB (b := b) (fun i x => x = (i : Int) /\ l.take i = m.take i) (fun o => (o = .inl () /\ l = m) \/ (o = .inr false /\ l ≠ m)) l.length (x0 := (0 : Int)) ⟨rfl, by simp⟩ (by
  rintro i _ rec hi ⟨rfl, ht⟩;have hi' : i < m.length := by omega
  rw [hs rec i hi hi'];rcases hq _ (bn hi) _ (bn hi') with ⟨e1, e2⟩ | ⟨e1, e2⟩
  ·left;refine ⟨((i + 1 : Nat) : Int), by rw [e1, ba, Bool.not_true, bc, w64 (by omega) (by omega)]; rfl, rfl, ?_⟩;rw [List.take_succ_eq_append_getElem hi, List.take_succ_eq_append_getElem hi', ht, e2]
  ·right
   refine ⟨.inr false, by rw [e1, ba, Bool.not_false, bb], .inr ⟨rfl, fun h => e2 (by subst h; rfl)⟩⟩) (by
  rintro _ rec ⟨rfl, ht⟩;refine ⟨_, he rec, .inl ⟨rfl, ?_⟩⟩;rw [List.take_length, hlen, List.take_length] at ht
  exact ht) (n := FUEL) (by unfold FUEL; omega)
 rcases hR with ⟨rfl, h⟩ | ⟨rfl, h⟩
 ·exact .inl ⟨e, h⟩
 ·exact .inr ⟨e, h⟩
theorem LB (x y : Ae) : ((some (((x.Name.URI == y.Name.URI) && ((x.Name.Local == y.Name.Local) && true)) && ((x.Value == y.Value) && true)) : Option Bool) = some true /\ x = y) \/ ((some (((x.Name.URI == y.Name.URI) && ((x.Name.Local == y.Name.Local) && true)) && ((x.Value == y.Value) && true)) : Option Bool) = some false /\ x ≠ y) := by
 by_cases h : x = y
 ·subst h; left; simp
 ·right;refine ⟨?_, h⟩;rw [Option.some.injEq, Bool.eq_false_iff];intro e;simp only [Bool.and_true, Bool.and_eq_true, beq_iff_eq] at e;exact h (Nq (G0 e.1.1 e.1.2) e.2)
theorem N4 {α : Type} {l m : List α} (h : ¬ l.length = m.length) : ((l.length : Int) != (m.length : Int)) = true := by simpa using fun e : (l.length : Int) = m.length => h (by omega)
theorem Ny {α : Type} {l m : List α} (h : l.length = m.length) : ((l.length : Int) != (m.length : Int)) = false := by rw [h]; simp
theorem Ow (l m : List Ae) (hL : l.length <= 1049600) : (AZ l m = some true /\ l = m) \/ (AZ l m = some false /\ l ≠ m) := by
 unfold AZ AA;by_cases hlen : l.length = m.length
 ·rw [Ny hlen, bc]
  rcases KQ l m hlen hL _ (fun x _ y _ => LB x y) (b := Bl l m) (fun rec i h h' => by
   unfold Bl
   rw [bf (by omega), bb, Aq h, ba, Aq h', ba]; rfl) (fun rec => by
   unfold Bl
   rw [bg (by omega), bc]) with ⟨e, h⟩ | ⟨e, h⟩
  ·exact .inl ⟨by rw [e]; rfl, h⟩
  ·exact .inr ⟨by rw [e]; rfl, h⟩
 ·rw [N4 hlen, bb];exact .inr ⟨rfl, fun h => hlen (by rw [h])⟩
theorem MX (l m : List Ae) (hL : l.length <= 1049600) : (AO l m = some true /\ l = m) \/ (AO l m = some false /\ l ≠ m) := by
 unfold AO AA;by_cases hlen : l.length = m.length
 ·rw [Ny hlen, bc]
  rcases KQ l m hlen hL _ (fun x _ y _ => LB x y) (b := AU l m) (fun rec i h h' => by
   unfold AU
   rw [bf (by omega), bb, Aq h, ba, Aq h', ba]; rfl) (fun rec => by
   unfold AU
   rw [bg (by omega), bc]) with ⟨e, h⟩ | ⟨e, h⟩
  ·exact .inl ⟨by rw [e]; rfl, h⟩
  ·exact .inr ⟨by rw [e]; rfl, h⟩
 ·rw [N4 hlen, bb];exact .inr ⟨rfl, fun h => hlen (by rw [h])⟩
theorem KZ (x y : Aa) : (((x.Kind == y.Kind) && ((x.Name.URI == y.Name.URI) && ((x.Name.Local == y.Name.Local) && true))) && (x.Text == y.Text)) = true ↔ x.Kind = y.Kind /\ x.Name = y.Name /\ x.Text = y.Text := by
 simp only [Bool.and_true, Bool.and_eq_true, beq_iff_eq];constructor
 ·rintro ⟨⟨h1, h2, h3⟩, h4⟩; exact ⟨h1, G0 h2 h3, h4⟩
 ·rintro ⟨h1, h2, h3⟩; exact ⟨⟨h1, by rw [h2], by rw [h2]⟩, h3⟩
theorem VN : ∀ (n : Nat) (x y : Aa), szN x < n -> szN x <= 1049600 -> (iter AK n (x, y) = some true /\ x = y) \/ (iter AK n (x, y) = some false /\ x ≠ y)
 | 0, x, y, h, _ => by omega
 | n + 1, x, y, h, hx => by
  have h1 := Ct x;have h2 := BI x;have ih : ∀ k ∈ x.Kids, ∀ k' ∈ y.Kids, (iter AK n (k, k') = some true /\ k = k') \/ (iter AK n (k, k') = some false /\ k ≠ k') := fun k hk k' _ => by
   have := GH hk;exact VN n k k' (by omega) (by omega)
  rw [C4];generalize iter AK n = rc at ih ⊢;unfold AK AA;dsimp only;have hb : (((x.Kind != y.Kind) || (!((x.Name.URI == y.Name.URI) && ((x.Name.Local == y.Name.Local) && true)))) || (!(x.Text == y.Text))) = !(((x.Kind == y.Kind) && ((x.Name.URI == y.Name.URI) && ((x.Name.Local == y.Name.Local) && true))) && (x.Text == y.Text)) := by
   simp only [bne, Bool.not_and]
  rw [hb];by_cases hh : x.Kind = y.Kind /\ x.Name = y.Name /\ x.Text = y.Text
  ·rw [(KZ x y).2 hh, Bool.not_true, bc];rcases Ow x.Attrs y.Attrs (by omega) with ⟨e, ha⟩ | ⟨e, ha⟩
   ·rw [e, ba, Bool.not_true, Bool.false_or];by_cases hlen : x.Kids.length = y.Kids.length
    ·rw [Ny hlen, bc]
     rcases KQ x.Kids y.Kids hlen (by omega) (fun a b => rc (a, b)) ih (b := BW x y rc) (fun rec i h h' => by
      unfold BW
      rw [bf (by omega), bb, Aq h, ba, Aq h', ba]) (fun rec => by
      unfold BW
      rw [bg (by omega), bc]) with ⟨e, hk⟩ | ⟨e, hk⟩
     ·exact .inl ⟨by rw [e]; rfl, F8 hh.1 hh.2.1 ha hk hh.2.2⟩
     ·exact .inr ⟨by rw [e]; rfl, fun h => hk (by rw [h])⟩
    ·rw [N4 hlen, bb];exact .inr ⟨rfl, fun h => hlen (by rw [h])⟩
   ·rw [e, ba, Bool.not_false, Bool.true_or, bb];exact .inr ⟨rfl, fun h => ha (by rw [h])⟩
  ·rw [show (((x.Kind == y.Kind) && ((x.Name.URI == y.Name.URI) && ((x.Name.Local == y.Name.Local) && true))) && (x.Text == y.Text)) = false from Bool.eq_false_iff.2 fun h => hh ((KZ x y).1 h), Bool.not_false, bb, Bool.true_or, bb];exact .inr ⟨rfl, fun h => hh (by rw [h]; exact ⟨rfl, rfl, rfl⟩)⟩
theorem SU : ∀ (n : Nat) (x y : Aa), szN x < n -> szN x <= 1049600 -> (iter Bv n (x, y) = some true /\ x = y) \/ (iter Bv n (x, y) = some false /\ x ≠ y)
 | 0, x, y, h, _ => by omega
 | n + 1, x, y, h, hx => by
  have h1 := Ct x;have h2 := BI x;have ih : ∀ k ∈ x.Kids, ∀ k' ∈ y.Kids, (iter Bv n (k, k') = some true /\ k = k') \/ (iter Bv n (k, k') = some false /\ k ≠ k') := fun k hk k' _ => by
   have := GH hk;exact SU n k k' (by omega) (by omega)
  rw [C4];generalize iter Bv n = rc at ih ⊢;unfold Bv AA;dsimp only;by_cases hh : x.Kind = y.Kind /\ x.Name = y.Name /\ x.Text = y.Text
  ·rw [(KZ x y).2 hh, bb];rcases MX x.Attrs y.Attrs (by omega) with ⟨e, ha⟩ | ⟨e, ha⟩
   ·rw [e, ba, bb];unfold An AA;by_cases hlen : x.Kids.length = y.Kids.length
    ·rw [Ny hlen, bc]
     rcases KQ x.Kids y.Kids hlen (by omega) (fun a b => rc (a, b)) ih (b := Ar x.Kids y.Kids (fun z0 z1 => rc (z0, z1))) (fun rec i h h' => by
      unfold Ar
      rw [bf (by omega), bb, Aq h, ba, Aq h', ba]) (fun rec => by
      unfold Ar
      rw [bg (by omega), bc]) with ⟨e, hk⟩ | ⟨e, hk⟩
     ·exact .inl ⟨by rw [e]; rfl, F8 hh.1 hh.2.1 ha hk hh.2.2⟩
     ·exact .inr ⟨by rw [e]; rfl, fun h => hk (by rw [h])⟩
    ·rw [N4 hlen, bb];exact .inr ⟨rfl, fun h => hlen (by rw [h])⟩
   ·rw [e, ba, bc];exact .inr ⟨rfl, fun h => ha (by rw [h])⟩
  ·rw [show (((x.Kind == y.Kind) && ((x.Name.URI == y.Name.URI) && ((x.Name.Local == y.Name.Local) && true))) && (x.Text == y.Text)) = false from Bool.eq_false_iff.2 fun h => hh ((KZ x y).1 h), bc, bc];exact .inr ⟨rfl, fun h => hh (by rw [h]; exact ⟨rfl, rfl, rfl⟩)⟩
theorem Wt {d : Aa} (hd : szN d <= 1049600) : ∃ r, CY d = some r /\ (r.2 = 0 -> AQ d = some 0 /\ r = (FB (PX d) d.Kids, 0)) := by
 obtain ⟨r, hw, _, hl, c, hc, h0, h1⟩ := Q0 d hd;refine ⟨r, hw, fun hr => ?_⟩;have hc0 : c = 0 := Classical.byContradiction fun h => by rw [h1 h] at hr; exact h hr
 have er := h0 hc0;subst hc0;refine ⟨hc, ?_⟩;rcases Nat.lt_or_ge 65536 (FB (PX d) d.Kids).length with h | h
 ·rw [er] at hr; unfold wrX at hr; rw [if_pos h] at hr; exact absurd hr (by decide)
 ·rw [er]; unfold wrX; rw [if_neg (by omega)]
theorem JD (a b : Aa) (ha : szN a <= 1049600) (hb : szN b <= 1049600) : B7 a b = some true := by
 obtain ⟨r, hw, h0⟩ := Wt ha;obtain ⟨r', hw', h0'⟩ := Wt hb;unfold B7 AA;rw [Uz, ba, Bool.not_true, bc, hw, ba, hw', ba];by_cases hr : r.2 = 0
 ·by_cases hr' : r'.2 = 0
  ·obtain ⟨ca, e1⟩ := h0 hr;obtain ⟨cb, e2⟩ := h0' hr';rw [hr, hr', show (((0 : Int) != (0 : Int)) || ((0 : Int) != (0 : Int))) = false from rfl, bc];have hs := VN FUEL a b (by unfold FUEL; omega) ha;have hq := SU FUEL a b (by unfold FUEL; omega) ha;unfold B3 B0 GL;dsimp only;rw [ba];by_cases hab : a = b
   ·rcases hs with ⟨s1, _⟩ | ⟨_, s2⟩
    ·rcases hq with ⟨q1, _⟩ | ⟨_, q2⟩
     ·have e3 : r.1 = r'.1 := by subst hab; rw [hw] at hw'; injection hw' with hw'; rw [hw']
      rw [s1, q1, e3, beq_self_eq_true];rfl
     ·exact absurd hab q2
    ·exact absurd hab s2
   ·rcases hs with ⟨_, s1⟩ | ⟨s1, _⟩
    ·exact absurd s1 hab
    ·rcases hq with ⟨_, q1⟩ | ⟨q1, _⟩
     ·exact absurd q1 hab
     ·have e3 : (r.1 == r'.1) = false := by
       rw [beq_eq_false_iff_ne];intro e;rw [e1, e2] at e;exact hab (Qa ha hb ca cb e)
      rw [s1, q1, e3];rfl
  ·rw [show (r'.2 != (0 : Int)) = true by simpa using hr', Bool.or_true, bb]
 ·rw [show (r.2 != (0 : Int)) = true by simpa using hr, Bool.true_or, bb]

set_option linter.unusedVariables false
theorem Iy (a b : Aa) {b0 b1 : Nat} (t0 : szN a <= b0) (t1 : szN b <= b1) (hb : b0 + b1 <= 1048576) (hp : Heap) : CallsA prog 5 [.agg (Ac a), .agg (Ac b)] hp fun d _ => d = .bool true :=
 (Fq a b (G := fun b => b = true) hp ⟨true, JD a b (by omega) (by omega), rfl⟩).mono fun d h' ⟨r, hr, hd⟩ => by subst hr; exact hd

set_option linter.unusedVariables false
set_option maxRecDepth 100000
open Go.ChangeShapes Go.WideShapes Go.ChangeAt Go.RowKit Go.Lib
def JO (x : Aa) : Prop := True
theorem FE {H : Type} {enc : TypeId × Value -> H} {w : World} {base : Nat} {held : Bool} : ∀ N : Nat, B.Rds N enc prog w base (fun _ => true) held 27 JO Ax Ac
 | 0 => B.Rds.zero
 | N + 1 => B.rd_structS underlying27 (.cons (k := 1) rfl (by kernel_rfl) (B.rd_int underlying3) (.cons (k := 2) rfl (by kernel_rfl) (B.rd_struct underlying23 (.cons (k := 1) rfl (by kernel_rfl) (B.rd_str underlying9) (.cons (k := 1) rfl (by kernel_rfl) (B.rd_str underlying9) .nil)) (by kernel_rfl) (ok' := (fun x : Ad => ((fun s : List By8 => s.length <= 9223372036854775807)) x.URI /\ ((fun s : List By8 => s.length <= 9223372036854775807)) x.Local /\ True)) (sz' := (fun x : Ad => ((fun s : List By8 => s.length + 1) x.URI + ((fun s : List By8 => s.length + 1) x.Local + 0)) + 1)) (c' := At) (fun y => (⟨y.1, y.2.1⟩ : Ad)) (fun y h => ⟨h, rfl, rfl⟩)) (.cons (k := 1) rfl (by kernel_rfl) (B.rd_slice underlying24 (k := 3) (by kernel_rfl) (by decide) (fun _ _ => rfl) (B.rd_struct underlying47 (.cons (k := 2) rfl (by kernel_rfl) (B.rd_struct underlying23 (.cons (k := 1) rfl (by kernel_rfl) (B.rd_str underlying9) (.cons (k := 1) rfl (by kernel_rfl) (B.rd_str underlying9) .nil)) (by kernel_rfl) (ok' := (fun x : Ad => ((fun s : List By8 => s.length <= 9223372036854775807)) x.URI /\ ((fun s : List By8 => s.length <= 9223372036854775807)) x.Local /\ True)) (sz' := (fun x : Ad => ((fun s : List By8 => s.length + 1) x.URI + ((fun s : List By8 => s.length + 1) x.Local + 0)) + 1)) (c' := At) (fun y => (⟨y.1, y.2.1⟩ : Ad)) (fun y h => ⟨h, rfl, rfl⟩)) (.cons (k := 1) rfl (by kernel_rfl) (B.rd_str underlying9) .nil)) (by kernel_rfl) (ok' := (fun x : Ae => ((fun x : Ad => ((fun s : List By8 => s.length <= 9223372036854775807)) x.URI /\ ((fun s : List By8 => s.length <= 9223372036854775807)) x.Local /\ True)) x.Name /\ ((fun s : List By8 => s.length <= 9223372036854775807)) x.Value /\ True)) (sz' := (fun x : Ae => ((fun x : Ad => ((fun s : List By8 => s.length + 1) x.URI + ((fun s : List By8 => s.length + 1) x.Local + 0)) + 1) x.Name + ((fun s : List By8 => s.length + 1) x.Value + 0)) + 1)) (c' := Ai) (fun y => (⟨y.1, y.2.1⟩ : Ae)) (fun y h => ⟨h, rfl, rfl⟩))) (.cons (k := 1) rfl (by kernel_rfl) (B.rd_slice underlying25 (k := 6) (by kernel_rfl) (by decide) (fun y _ => by rw [Ab]; rfl) (FE N)) (.cons (k := 1) rfl (by kernel_rfl) (B.rd_str underlying9) .nil))))) (by kernel_rfl) (fun y => (⟨y.1, y.2.1, y.2.2.1, y.2.2.2.1, y.2.2.2.2.1⟩ : Aa)) (fun y h => ⟨trivial, by show Ax (⟨_, _, _, _, _⟩ : Aa) = _; rw [Ax, HU], by rw [Ab]; rfl⟩)
end Go.Proofs.YtjofelloaofooaaGreatDoor
