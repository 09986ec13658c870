/- Walking in step with a plain function: slots as a list of what is known, one rule an operation. No condition. -/
import Derived.Test.YtjofelloaofooaaGreatDoorEng15
set_option linter.unusedSimpArgs false
set_option linter.unusedVariables false
namespace Go.Proofs.YtjofelloaofooaaGreatDoor
variable {df : List Deferred}
def Gl : List (Nat × D) -> Nat -> D
 | [], _ => .any
 | (i, d) :: l, t => match Nat.beq i t with
  | true => d
  | false => Gl l t
def AH (n : Nat) (l : List (Nat × D)) : List D := (List.range n).map (Gl l)
theorem Ei (n : Nat) (l : List (Nat × D)) : (AH n l).length = n := by simp [AH]
theorem EN (n : Nat) (l : List (Nat × D)) (t : Nat) : (AH n l).getD t .any = if t < n then Gl l t else .any := by
 by_cases h : t < n <;> simp [AH, List.getD, h]
theorem M0 (n : Nat) (l : List (Nat × D)) (t : Nat) (d : D) : (AH n l).set t d = AH n ((t, d) :: l) := by
 refine List.ext_getElem? fun j => ?_;by_cases hj : j < n
 ·by_cases e : t = j
  ·subst e; simp [AH, hj, Gl]
  ·have hb : Nat.beq t j = false := by
    cases hb : Nat.beq t j with
    | false => rfl
    | true => exact absurd (Nat.eq_of_beq_eq_true hb) e
   rw [List.getElem?_set_ne e];simp [AH, hj, Gl, hb]
 ·rw [List.getElem?_eq_none (by simp [AH]; omega), List.getElem?_eq_none (by simp [AH]; omega)]
def opL (n : Nat) (l : List (Nat × D)) : Operand -> D
 | .tmp t => match Nat.blt t n with
  | true => Gl l t
  | false => .any
 | .const v => ofV v
 | .global _ => .any
 | .func f => .fn (.func f) [] []
theorem GM (n : Nat) (l : List (Nat × D)) : opD (AH n l) = opL n l := by
 funext x
 cases x with
 | tmp t =>
  simp only [opD, opL, EN];by_cases h : t < n
  ·have : Nat.blt t n = true := by rw [Nat.blt_eq]; exact h
   rw [this, if_pos h]
  ·have : Nat.blt t n = false := by
    cases hb : Nat.blt t n with
    | false => rfl
    | true => rw [Nat.blt_eq] at hb; exact absurd hb h
   rw [this, if_neg h]
 | _ => rfl
def mdl : List (Nat × Nat) -> Nat -> Nat
 | [], _ => 0
 | (i, m) :: l, t => match Nat.beq i t with
  | true => m
  | false => mdl l t
abbrev N0 : FuncId -> Option (List D -> Option D) := fun _ => none
inductive Wd : D -> D -> Prop
 | refl (d : D) : Wd d d
 | any (d : D) : Wd d .any
 | nil (k : Nat) : Wd .snil (.sl k [] 0)
 | sl (k : Nat) (es es' : List (List D)) (r r' : Nat) (hl : es.length = es'.length) (hk : ∀ i : Nat, (es.getD i []).length = (es'.getD i []).length)
   (he : ∀ i j : Nat, Wd ((es.getD i []).getD j .any) ((es'.getD i []).getD j .any)) (hr : r' = r \/ r' = 0) : Wd (.sl k es r) (.sl k es' r')
 | slx (k : Nat) (es sp : List (List D)) : Wd (.slx k es sp) (.sl k es 0)
 | agg (cs cs' : List D) (hl : cs.length = cs'.length) (hc : ∀ i : Nat, Wd (cs.getD i .any) (cs'.getD i .any)) : Wd (.agg cs) (.agg cs')
 | tup (cs cs' : List D) (hl : cs.length = cs'.length) (hc : ∀ i : Nat, Wd (cs.getD i .any) (cs'.getD i .any)) : Wd (.tup cs) (.tup cs')
theorem Wd.rel {K : Kn} {d e : D} (w : Wd d e) : ∀ {v : Value}, VR K v d -> VR K v e := by
 induction w with
 | refl d => exact fun h => h
 | any d => exact fun h => .any _
 | nil k => intro v h; cases h; exact .slz k none
 | sl k es es' r r' hl hk he hr ih =>
  intro v h
  cases h with
  | slz _ a =>
   have e1 : es' = [] := List.eq_nil_of_length_eq_zero (by simpa using hl.symm);subst e1;have e2 : r' = 0 := by rcases hr with h | h <;> exact h
   subst e2;exact .slz k a
  | sln _ _ hlt =>
   have e1 : es' = [] := List.eq_nil_of_length_eq_zero (by simpa using hl.symm);subst e1;rcases hr with h | h
   ·rw [h]; exact .sln k r hlt
   ·rw [h]; exact .slz k none
  | sl b o _ _ _ cap vs h1 h2 h3 h4 h5 =>
   have := VR.sl (K := K) b o k es' r' cap vs (fun i hi => by rw [<- hk]; exact h1 i (by omega)) (fun i j hi hj => h2 i j (by omega) hj) (fun i j => ih i j (h3 i j)) (by omega)
    (fun h0 => by
     rcases hr with h | h
     ·rw [h] at h0 ⊢; rw [<- hl]; exact h5 h0
     ·exact absurd h h0)
   rw [<- hl] at this; exact this
 | slx k es sp =>
  intro v h
  cases h with
  | slxz _ a => exact .slz k (some a)
  | slx b o _ _ _ cap vs h1 h2 h3 h4 =>
   have g : ∀ i, i < es.length -> (es ++ sp).getD i [] = es.getD i [] := fun i hi => by
    rw [List.getD_eq_getElem?_getD, List.getElem?_append_left hi, <- List.getD_eq_getElem?_getD]
   rw [bm] at h4;have hlt : ∀ i, i < es.length -> i < (es ++ sp).length := fun i hi => by rw [bm]; omega
   exact VR.sl (K := K) b o k es 0 cap (fun i j => if i < es.length then vs i j else undef) (fun i hi => by rw [<- g i hi]; exact h1 i (hlt i hi)) (fun i j hi hj => by rw [if_pos hi]; exact h2 i j (hlt i hi) hj)
    (fun i j => by
     by_cases hi : i < es.length
     ·rw [if_pos hi, <- g i hi]; exact h3 i j
     ·rw [List.getD_eq_getElem?_getD (l := es), List.getElem?_eq_none (by omega)]; exact .any _) (by omega) (fun h0 => absurd rfl h0)
 | agg cs cs' hl hc ih =>
  intro v h
  cases h with
  | agg x _ hx h1 hv => exact .agg x cs' (by omega) h1 fun i => ih i (hv i)
 | tup cs cs' hl hc ih =>
  intro v h
  cases h with
  | tup x _ hx hv => exact .tup x cs' (by omega) fun i => ih i (hv i)
structure WdC (cs cs' : List D) : Prop where
 l : cs.length = cs'.length
 c : ∀ i : Nat, Wd (cs.getD i .any) (cs'.getD i .any)
theorem WdC.refl (cs : List D) : WdC cs cs := ⟨rfl, fun _ => .refl _⟩
theorem WdC.nil : WdC [] [] := .refl _
theorem WdC.cons {d e : D} {cs cs' : List D} (h : Wd d e) (r : WdC cs cs') : WdC (d :: cs) (e :: cs') :=
 ⟨by simp [r.l], fun i => by cases i with | zero => simpa using h | succ i => simpa using r.c i⟩
theorem WdC.app {cs cs' ds ds' : List D} (h : WdC cs cs') (r : WdC ds ds') : WdC (cs ++ ds) (cs' ++ ds') :=
 ⟨by simp [r.l, h.l], fun i => by
  by_cases hi : i < cs.length
  ·have hi' : i < cs'.length := by rw [<- h.l]; exact hi
   have := h.c i;simpa [List.getD, List.getElem?_append_left hi, List.getElem?_append_left hi'] using this
  ·have hi' : ¬ i < cs'.length := by rw [<- h.l]; exact hi
   have := r.c (i - cs.length);rw [h.l] at this
   simpa [List.getD, List.getElem?_append_right (Nat.le_of_not_lt hi), List.getElem?_append_right (Nat.le_of_not_lt hi'), h.l] using this⟩
theorem Wd.aggC {cs cs' : List D} (h : WdC cs cs') : Wd (.agg cs) (.agg cs') := .agg _ _ h.l h.c
theorem Wd.tupC {cs cs' : List D} (h : WdC cs cs') : Wd (.tup cs) (.tup cs') := .tup _ _ h.l h.c
theorem Wd.eq {d e : D} (h : d = e) : Wd d e := h ▸ .refl d
theorem Wd.zero (k : Nat) (es : List (List D)) (r : Nat) : Wd (.sl k es r) (.sl k es 0) := .sl k es es r 0 rfl (fun _ => rfl) (fun _ _ => .refl _) (.inr rfl)
inductive WdR : List (List D) -> List (List D) -> Prop
 | nil : WdR [] []
 | cons {c c' : List D} {es es' : List (List D)} (h : WdC c c') (r : WdR es es') : WdR (c :: es) (c' :: es')
theorem WdR.refl : ∀ es : List (List D), WdR es es
 | [] => .nil
 | _ :: es => .cons (.refl _) (WdR.refl es)
theorem WdR.app : ∀ {es es' fs fs' : List (List D)}, WdR es es' -> WdR fs fs' -> WdR (es ++ fs) (es' ++ fs')
 | _, _, _, _, .nil, r => r
 | _, _, _, _, .cons h g, r => .cons h (g.app r)
theorem WdR.spec : ∀ {es es' : List (List D)}, WdR es es' -> es.length = es'.length /\ ∀ i : Nat, WdC (es.getD i []) (es'.getD i [])
 | _, _, .nil => ⟨rfl, fun i => by simp; exact .refl _⟩
 | _, _, .cons h r => ⟨by simp [r.spec.1], fun i => by cases i with | zero => simpa using h | succ i => simpa using r.spec.2 i⟩
def Hp (h : Heap) : List (Nat × AObj) -> Heap
 | [] => h
 | (i, x) :: O => if i = 0 then Hp h O else (Hp h O).upd i (some x)
def OK (h : Heap) : List (Nat × AObj) -> Prop
 | [] => True
 | (i, x) :: O => ((i = 0 /\ x = .room) \/ (i ≠ 0 /\ Hp h O i = none)) /\ OK h O
theorem Hp_get {h : Heap} {i : Nat} {x : AObj} : ∀ {O : List (Nat × AObj)} (n : Nat), OK h O -> O[n]? = some (i, x) -> i ≠ 0 -> Hp h O i = some x
 | [], n, _, hn, _ => by simp at hn
 | (j, y) :: O, 0, ok, hn, h0 => by
  simp at hn; obtain ⟨rfl, rfl⟩ := hn;simp [Hp, h0, Heap.upd]
 | (j, y) :: O, n + 1, ok, hn, h0 => by
  have ih := Hp_get n ok.2 (by simpa using hn) h0;rcases ok.1 with ⟨e, _⟩ | ⟨e, hf⟩
  ·simp [Hp, e, ih]
  ·have hne : i ≠ j := fun e => by rw [e, hf] at ih; simp at ih
   simp [Hp, e, Heap.upd, hne, ih]
theorem Heap.upd_upd (h : Heap) (i : Nat) (x y : Option AObj) : (h.upd i x).upd i y = h.upd i y := by
 funext j; by_cases e : j = i <;> simp [Heap.upd, e]
theorem Heap.upd_comm (h : Heap) {i j : Nat} (x y : Option AObj) (hn : i ≠ j) : (h.upd i x).upd j y = (h.upd j y).upd i x := by
 funext q;by_cases e : q = i
 ·subst e; simp [Heap.upd, hn]
 ·by_cases e2 : q = j <;> simp [Heap.upd, e, e2]
  intro h3; exact absurd h3.symm hn
theorem Hp_set {h : Heap} {i : Nat} {x y : AObj} : ∀ {O : List (Nat × AObj)} (n : Nat), OK h O -> O[n]? = some (i, x) -> i ≠ 0 -> (Hp h O).upd i (some y) = Hp h (O.set n (i, y)) /\ OK h (O.set n (i, y))
 | [], n, _, hn, _ => by simp at hn
 | (j, z) :: O, 0, ok, hn, h0 => by
  simp at hn; obtain ⟨rfl, rfl⟩ := hn;rcases ok.1 with ⟨e, _⟩ | ⟨e, hf⟩
  ·exact absurd e h0
  ·exact ⟨by simp [Hp, h0, Heap.upd_upd], .inr ⟨e, hf⟩, ok.2⟩
 | (j, z) :: O, n + 1, ok, hn, h0 => by
  have hn' : O[n]? = some (i, x) := by simpa using hn
  obtain ⟨a, b⟩ := Hp_set (y := y) n ok.2 hn' h0;have hg := Hp_get n ok.2 hn' h0;rcases ok.1 with ⟨e, e'⟩ | ⟨e, hf⟩
  ·exact ⟨by simp [Hp, e, a], .inl ⟨e, e'⟩, b⟩
  ·have hne : j ≠ i := fun e => by rw [<- e, hf] at hg; simp at hg
   refine ⟨?_, .inr ⟨e, ?_⟩, b⟩
   ·simp only [List.set_cons_succ, Hp, e, if_false];rw [Heap.upd_comm _ _ _ hne, a]
   ·rw [<- a, Heap.upd_ne _ _ hne, hf]
theorem Hp_rel {h : Heap} {i : Nat} {x : AObj} : ∀ {O : List (Nat × AObj)} (n : Nat), OK h O -> O[n]? = some (i, x) -> i ≠ 0 -> (Hp h O).upd i none = Hp h (O.set n (0, .room)) /\ OK h (O.set n (0, .room))
 | [], n, _, hn, _ => by simp at hn
 | (j, z) :: O, 0, ok, hn, h0 => by
  simp at hn; obtain ⟨rfl, rfl⟩ := hn;rcases ok.1 with ⟨e, _⟩ | ⟨e, hf⟩
  ·exact absurd e h0
  ·refine ⟨?_, .inl ⟨rfl, rfl⟩, ok.2⟩;simp only [Hp, h0, if_false, List.set_cons_zero, if_true];funext q; by_cases e2 : q = j <;> simp [Heap.upd, e2, hf]
 | (j, z) :: O, n + 1, ok, hn, h0 => by
  have hn' : O[n]? = some (i, x) := by simpa using hn
  obtain ⟨a, b⟩ := Hp_rel n ok.2 hn' h0;have hg := Hp_get n ok.2 hn' h0;rcases ok.1 with ⟨e, e'⟩ | ⟨e, hf⟩
  ·exact ⟨by simp [Hp, e, a], .inl ⟨e, e'⟩, b⟩
  ·have hne : j ≠ i := fun e => by rw [<- e, hf] at hg; simp at hg
   refine ⟨?_, .inr ⟨e, ?_⟩, b⟩
   ·simp only [List.set_cons_succ, Hp, e, if_false];rw [Heap.upd_comm _ _ _ hne, a]
   ·rw [<- a, Heap.upd_ne _ _ hne, hf]
theorem Hp_fill {h : Heap} {i : Nat} {x : AObj} : ∀ {O : List (Nat × AObj)} (n : Nat), OK h O -> O[n]? = some (0, .room) -> i ≠ 0 -> Hp h O i = none -> (Hp h O).upd i (some x) = Hp h (O.set n (i, x)) /\ OK h (O.set n (i, x))
 | [], n, _, hn, _, _ => by simp at hn
 | (j, z) :: O, 0, ok, hn, h0, hf => by
  simp at hn; obtain ⟨rfl, rfl⟩ := hn;simp only [Hp, if_true] at hf ⊢;exact ⟨by simp [Hp, h0], .inr ⟨h0, hf⟩, ok.2⟩
 | (j, z) :: O, n + 1, ok, hn, h0, hf => by
  have hn' : O[n]? = some (0, .room) := by simpa using hn
  rcases ok.1 with ⟨e, e'⟩ | ⟨e, hj⟩
  ·simp only [Hp, e, if_true] at hf;obtain ⟨a, b⟩ := Hp_fill (x := x) n ok.2 hn' h0 hf;exact ⟨by simp [Hp, e, a], .inl ⟨e, e'⟩, b⟩
  ·simp only [Hp, e, if_false] at hf;have hne : i ≠ j := fun e2 => by rw [e2] at hf; simp [Heap.upd] at hf
   rw [Heap.upd_ne _ _ hne] at hf;obtain ⟨a, b⟩ := Hp_fill (x := x) n ok.2 hn' h0 hf;refine ⟨?_, .inr ⟨e, ?_⟩, b⟩
   ·simp only [List.set_cons_succ, Hp, e, if_false];rw [Heap.upd_comm _ _ _ (Ne.symm hne), a]
   ·rw [<- a, Heap.upd_ne _ _ (Ne.symm hne), hj]
theorem Hp_new {h : Heap} {i : Nat} {x : AObj} {O : List (Nat × AObj)} (ok : OK h O) (hf : Hp h O i = none) (h0 : i ≠ 0) : (Hp h O).upd i (some x) = Hp h ((i, x) :: O) /\ OK h ((i, x) :: O) :=
 ⟨by simp [Hp, h0], .inr ⟨h0, hf⟩, ok⟩
theorem OK_nil {h : Heap} {O : List (Nat × AObj)} (ok : OK h O) : OK h ((0, .room) :: O) := ⟨.inl ⟨rfl, rfl⟩, ok⟩
theorem Hp_pull {h : Heap} {i : Nat} {x : AObj} : ∀ {O : List (Nat × AObj)} (n : Nat), OK h O -> O[n]? = some (i, x) -> Hp h O = Hp h ((i, x) :: O.eraseIdx n) /\ OK h ((i, x) :: O.eraseIdx n)
 | [], n, _, hn => by simp at hn
 | (j, z) :: O, 0, ok, hn => by
  simp at hn; obtain ⟨rfl, rfl⟩ := hn;exact ⟨rfl, ok⟩
 | (j, z) :: O, n + 1, ok, hn => by
  have hn' : O[n]? = some (i, x) := by simpa using hn
  obtain ⟨a, b⟩ := Hp_pull n ok.2 hn';simp only [List.eraseIdx_cons_succ];rcases ok.1 with ⟨e, e'⟩ | ⟨e, hj⟩
  ·refine ⟨?_, ?_, .inl ⟨e, e'⟩, b.2⟩
   ·simp only [Hp, e, if_true] at a ⊢; exact a
   ·rcases b.1 with hb | ⟨hb, hb2⟩
    ·exact .inl hb
    ·exact .inr ⟨hb, by simp only [Hp, e, if_true]; exact hb2⟩
  ·rcases b.1 with ⟨hb, hb'⟩ | ⟨hb, hb2⟩
   ·refine ⟨?_, .inl ⟨hb, hb'⟩, .inr ⟨e, ?_⟩, b.2⟩
    ·simp only [Hp, e, hb, if_true, if_false] at a ⊢; rw [a]
    ·rw [a] at hj; simpa [Hp, hb] using hj
   ·have hg := Hp_get n ok.2 hn' hb;have hne : j ≠ i := fun e => by rw [<- e, hj] at hg; simp at hg
    have hj' : Hp h (O.eraseIdx n) j = none := by
     rw [a] at hj; simpa [Hp, hb, Heap.upd, hne] using hj
    refine ⟨?_, .inr ⟨hb, ?_⟩, .inr ⟨e, hj'⟩, b.2⟩
    ·simp only [Hp, e, hb, if_false] at a ⊢;rw [a, Heap.upd_comm _ _ _ (Ne.symm hne)]
    ·simp [Hp, e, Heap.upd, Ne.symm hne, hb2]
inductive WO : List (Nat × AObj) -> List (Nat × AObj) -> Prop
 | nil : WO [] []
 | drop {p : Nat × AObj} {O O' : List (Nat × AObj)} (r : WO O O') : WO (p :: O) O'
 | keep {p : Nat × AObj} {O O' : List (Nat × AObj)} (r : WO O O') : WO (p :: O) (p :: O')
 | weak {i : Nat} {cs cs' : List D} {O O' : List (Nat × AObj)} (h : WdC cs cs') (r : WO O O') : WO ((i, .cells cs) :: O) ((i, .cells cs') :: O')
 | hole {O O' : List (Nat × AObj)} (r : WO O O') : WO O ((0, .room) :: O')
def WH (h h' : Heap) : Prop := ∀ i, h' i = h i \/ h' i = none \/ ∃ cs cs', h i = some (.cells cs) /\ h' i = some (.cells cs') /\ WdC cs cs'
theorem WH.refl (h : Heap) : WH h h := fun _ => .inl rfl
theorem WO.spec {h : Heap} : ∀ {O O' : List (Nat × AObj)}, WO O O' -> OK h O -> OK h O' /\ (∀ i, Hp h O i = none -> Hp h O' i = none) /\ WH (Hp h O) (Hp h O')
 | _, _, .nil, ok => ⟨ok, fun _ h => h, WH.refl _⟩
 | _, _, .hole r, ok => by
  obtain ⟨a, b, c⟩ := r.spec ok;exact ⟨OK_nil a, fun i hi => by simpa [Hp] using b i hi, fun i => by simpa [Hp] using c i⟩
 | (i, x) :: O, O', .drop r, ok => by
  obtain ⟨a, b, c⟩ := r.spec ok.2;rcases ok.1 with ⟨e, _⟩ | ⟨e, hf⟩
  ·exact ⟨a, fun j hj => b j (by simpa [Hp, e] using hj), fun j => by simpa [Hp, e] using c j⟩
  ·refine ⟨a, fun j hj => ?_, fun j => ?_⟩
   ·by_cases e2 : j = i
    ·subst e2; exact b _ hf
    ·exact b j (by simpa [Hp, e, Heap.upd, e2] using hj)
   ·by_cases e2 : j = i
    ·subst e2; exact .inr (.inl (b _ hf))
    ·simpa [Hp, e, Heap.upd, e2] using c j
 | (i, x) :: O, _ :: O', .keep r, ok => by
  obtain ⟨a, b, c⟩ := r.spec ok.2;rcases ok.1 with ⟨e, e'⟩ | ⟨e, hf⟩
  ·exact ⟨⟨.inl ⟨e, e'⟩, a⟩, fun j hj => by simpa [Hp, e] using b j (by simpa [Hp, e] using hj), fun j => by simpa [Hp, e] using c j⟩
  ·refine ⟨⟨.inr ⟨e, b _ hf⟩, a⟩, fun j hj => ?_, fun j => ?_⟩
   ·by_cases e2 : j = i
    ·subst e2; simp [Hp, e, Heap.upd] at hj
    ·simpa [Hp, e, Heap.upd, e2] using b j (by simpa [Hp, e, Heap.upd, e2] using hj)
   ·by_cases e2 : j = i
    ·subst e2; exact .inl (by simp [Hp, e, Heap.upd])
    ·simpa [Hp, e, Heap.upd, e2] using c j
 | (i, .cells cs) :: O, (_, .cells cs') :: O', .weak hw r, ok => by
  obtain ⟨a, b, c⟩ := r.spec ok.2;rcases ok.1 with ⟨e, e'⟩ | ⟨e, hf⟩
  ·simp at e'
  ·refine ⟨⟨.inr ⟨e, b _ hf⟩, a⟩, fun j hj => ?_, fun j => ?_⟩
   ·by_cases e2 : j = i
    ·subst e2; simp [Hp, e, Heap.upd] at hj
    ·simpa [Hp, e, Heap.upd, e2] using b j (by simpa [Hp, e, Heap.upd, e2] using hj)
   ·by_cases e2 : j = i
    ·subst e2; exact .inr (.inr ⟨cs, cs', by simp [Hp, e, Heap.upd], by simp [Hp, e, Heap.upd], hw⟩)
    ·simpa [Hp, e, Heap.upd, e2] using c j
theorem HR.weaken {K : Kn} {h h' : Heap} {w : World} (H : HR K h w) (hw : WH h h') : HR K h' w := by
 have key : ∀ i y, h' i = some y -> ∃ x, h i = some x /\ (∀ b o, own K i y b o ↔ own K i x b o) /\ (ObjOk K w i x -> ObjOk K w i y) := by
  intro i y hy;rcases hw i with h1 | h1 | ⟨cs, cs', h1, h2, h3⟩
  ·exact ⟨y, by rw [<- h1]; exact hy, fun _ _ => Iff.rfl, fun h => h⟩
  ·rw [h1] at hy; simp at hy
  ·rw [h2] at hy; injection hy with hy; subst hy
   refine ⟨.cells cs, h1, fun _ _ => Iff.rfl, fun ⟨a, b, c⟩ => ⟨by rw [<- h3.l]; exact a, fun j hj => ?_, c⟩⟩;obtain ⟨v, v1, v2, v3⟩ := b j hj;exact ⟨v, v1, v2, (h3.c j).rel v3⟩
 refine ⟨fun i y hy => ?_, H.nz, H.mu, H.bs, H.old, fun i y hy => ?_, fun i y hy b o ho => ?_, fun i y hy b o ho => ?_, fun i j y z hij hy hz b o hoy hoz => ?_, ?_, H.ev, H.tb⟩
 ·obtain ⟨x, hx, _⟩ := key i y hy; exact H.lt i x hx
 ·obtain ⟨x, hx, _, hf⟩ := key i y hy; exact hf (H.ok i x hx)
 ·obtain ⟨x, hx, hf, _⟩ := key i y hy; exact H.ge i x hx b o ((hf b o).1 ho)
 ·obtain ⟨x, hx, hf, _⟩ := key i y hy; exact H.nomu i x hx b o ((hf b o).1 ho)
 ·obtain ⟨x, hx, hf, _⟩ := key i y hy;obtain ⟨x', hx', hf', _⟩ := key j z hz;exact H.sep i j x x' hij hx hx' b o ((hf b o).1 hoy) ((hf' b o).1 hoz)
 ·rcases hw 0 with h1 | h1 | ⟨cs, cs', h1, _, _⟩
  ·rw [h1]; exact H.z
  ·exact h1
  ·rw [H.z] at h1; simp at h1
structure WS (s t : St) : Prop where
 l : s.sl.length = t.sl.length
 c : ∀ i : Nat, Wd (s.sl.getD i .any) (t.sl.getD i .any)
 h : WH s.h t.h
theorem Sim.ws {K : Kn} {s t : St} {a : Act} {w : World} (S : Sim df K s a w) (h : WS s t) : Sim df K t a w :=
 ⟨S.h.weaken h.h, S.d, by rw [S.n, h.l], fun i => (h.c i).rel (S.v i)⟩
inductive WL (n : Nat) (l : List (Nat × D)) : List (Nat × D) -> Prop
 | nil : WL n l []
 | cons {t : Nat} {d : D} {l' : List (Nat × D)} (h : Wd (Gl l t) d) (r : WL n l l') : WL n l ((t, d) :: l')
theorem WL.spec {n : Nat} {l : List (Nat × D)} : ∀ {l' : List (Nat × D)}, WL n l l' -> ∀ t, Wd (Gl l t) (Gl l' t)
 | _, .nil, t => .any _
 | _, .cons (t := q) (d := d) (l' := l') h r, t => by
  show Wd (Gl l t) (match Nat.beq q t with | true => d | false => Gl l' t)
  cases hb : Nat.beq q t with
  | true => rw [Nat.beq_eq] at hb; subst hb; exact h
  | false => exact r.spec t
theorem WS.mk' {n : Nat} {l l' : List (Nat × D)} {h : Heap} {O O' : List (Nat × AObj)} (hl : WL n l l') (ok : OK h O) (ho : WO O O') : WS ⟨AH n l, Hp h O⟩ ⟨AH n l', Hp h O'⟩ :=
 ⟨by simp [Ei], fun i => by
  simp only [EN];split
  ·exact hl.spec i
  ·exact .refl _, (ho.spec ok).2.2⟩
section
variable {P : Program} {Q : Exit -> St -> Prop} {s : St}
theorem Bv {c : Code} {t : St} (h : WS s t) (hw : WP P c Q t) : WP P c Q s := fun df K a w S => hw df K a w (S.ws h)
def iter {σ ρ : Type} (b : (σ -> Option ρ) -> σ -> Option ρ) : Nat -> σ -> Option ρ
 | 0, _ => none
 | n + 1, x => b (iter b n) x
abbrev FUEL : Nat := 18446744073709551616
def AA {α β : Type} (k : α -> Option β) (f : (α -> Option β) -> Option β) : Option β := f k
def idx {α : Type} (l : List α) (i : Int) : Option α := if 0 <= i then l[i.toNat]? else none
def slc {α : Type} (l : List α) (i j : Int) : Option (List α) := if 0 <= i /\ i <= j /\ j <= (l.length : Int) then some ((l.drop i.toNat).take (j.toNat - i.toNat)) else none
def cat (a b : List By8) : Option (List By8) := if a.length + b.length <= 9223372036854775807 then some (a ++ b) else none
def app {α : Type} (B : Nat) (l m : List α) : Option (List α) := if (l.length + m.length) * B <= 140737488355328 /\ l.length + m.length <= 140737488355328 then some (l ++ m) else none
def u8 (n : Int) : Option By8 := if 0 <= n /\ n <= 255 then some (UInt8.ofNat n.toNat) else none
variable {α β γ : Type} {G : β -> Prop} {A : Prop}
theorem Bp {x : Option α} {f : α -> Option β} (hF : OptP (x.bind f) G) : ∃ a, x = some a /\ OptP (f a) G := by
 rw [OptP_bind] at hF; exact hF
theorem MI {c : Bool} {x y : Option β} (hF : OptP (cond c x y) G) : (c = true /\ OptP x G) \/ (c = false /\ OptP y G) := by
 cases c
 ·exact .inr ⟨rfl, hF⟩
 ·exact .inl ⟨rfl, hF⟩
theorem AP {b : β} (hF : OptP (some b) G) : G b := by rw [OptP_some] at hF; exact hF
theorem Lh (hF : OptP (none : Option β) G) : A := by rw [OptP_none] at hF; exact hF.elim
theorem Ey {x y : Code} (h : WP P x (Exit.sel (WP P y Q) Q) s) : WP P (.seq x y) Q s := Pq h
theorem CI {n : Nat} {l : List (Nat × D)} {h : Heap} {c : Operand} {x y : Code} {b : Bool} {X Y : Option β} (hc : opL n l c = .bool b) (hF : OptP (cond b X Y) G) (hT : b = true -> OptP X G -> WP P x Q ⟨AH n l, h⟩)
  (hE : b = false -> OptP Y G -> WP P y Q ⟨AH n l, h⟩) : WP P (.cond c x y) Q ⟨AH n l, h⟩ := by
 refine LD ?_;show Pk (opD (AH n l) c) _ _;rw [GM, hc];rcases MI hF with ⟨rfl, hF⟩ | ⟨rfl, hF⟩
 ·exact hT rfl hF
 ·exact hE rfl hF
theorem BU {x y : Code} {k : α -> Option β} {f : (α -> Option β) -> Option β} (hF : OptP (AA k f) G) (R : α -> St -> Prop)
  (h1 : ∀ J : α -> Option β, OptP (f J) G -> WP P x (Exit.sel (fun s' => ∃ v, OptP (J v) G /\ R v s') Q) s) (h2 : ∀ v s', OptP (k v) G -> R v s' -> WP P y Q s') : WP P (.seq x y) Q s := by
 refine Pq (Tn (h1 k hF) fun e s' hq => ?_)
 cases e with
 | normal => obtain ⟨v, hv, hr⟩ := hq; exact h2 v s' hv hr
 | _ => exact hq
theorem Dv {σ ρ : Type} {c : Code} {b : (σ -> Option ρ) -> σ -> Option ρ} {n : Nat} {x0 : σ} {k : ρ -> Option β} (hF : OptP ((iter b n x0).bind k) G) (R : σ -> St -> Prop) (hR : R x0 s)
  (hs : ∀ G1 : ρ -> Prop, (∀ o, G1 o -> OptP (k o) G) -> ∀ (rec : σ -> Option ρ) (x : σ) (s' : St), (∀ (y : σ) (t : St), OptP (rec y) G1 -> R y t -> LW P c Q t) -> OptP (b rec x) G1 -> R x s' -> WP P c (Exit.sel (LW P c Q) Q) s') : WP P (.loop c) Q s := by
 refine Tv ?_;rw [OptP_bind] at hF;have key : ∀ (n : Nat) (x : σ) (s : St), OptP (iter b n x) (fun o => OptP (k o) G) -> R x s -> LW P c Q s := by
  intro n
  induction n with
  | zero => intro x s h _; exact Lh h
  | succ n ih =>
   intro x s h hr;exact LW_step (hs _ (fun _ h => h) (iter b n) x s (fun y t hy hr => ih y t hy hr) h hr)
 exact key n x0 s hF hR
def Cn (w : Bool) (s : St) (X : St -> Prop) : Prop := match w with
 | true => ∀ (df : List Deferred) (K : Kn) (a : Act) (u : World), Sim df K s a u -> ∃ K' t, Ext K K' /\ Sim df K' t a u /\ X t
 | false => True /\ X s
theorem Cn.of {w : Bool} {s : St} {X : St -> Prop} (h : X s) : Cn w s X := by
 cases w
 ·exact ⟨trivial, h⟩
 ·exact fun df K a u S => ⟨K, s, Ext.refl K, S, h⟩
theorem Cn.mono {w : Bool} {s : St} {X Y : St -> Prop} (h : Cn w s X) (hXY : ∀ t, X t -> Y t) : Cn w s Y := by
 cases w
 ·exact ⟨trivial, hXY _ h.2⟩
 ·exact fun df K a u S => let ⟨K', t, E, S', x⟩ := h df K a u S; ⟨K', t, E, S', hXY _ x⟩
theorem Cn.bind {w : Bool} {s : St} {X Y : St -> Prop} (h : Cn w s X) (hXY : ∀ t, X t -> Cn w t Y) : Cn w s Y := by
 cases w
 ·exact hXY _ h.2
 ·exact fun df K a u S => by
   obtain ⟨K', t, E, S', x⟩ := h df K a u S;obtain ⟨K2, t2, E2, S2, y⟩ := hXY t x df K' a u S';exact ⟨K2, t2, E.trans E2, S2, y⟩
theorem Cn.ws {s t : St} {X : St -> Prop} (hw : WS s t) (h : X t) : Cn true s X := fun df K a u S => ⟨K, t, Ext.refl K, S.ws hw, h⟩
def AO (P : Program) (md : Nat -> Nat) (w : Bool) (ops : Array Oper) : List Oper -> St -> (St -> Prop) -> Prop
 | [], s, k => Cn w s k
 | o :: os, s, k => Cn w s fun t => EK P N0 md ops o t fun s' => AO P md w ops os s' k
variable {md : Nat -> Nat} {w : Bool} {ops : Array Oper} {o : Oper} {os : List Oper} {k : St -> Prop}
theorem EJ : ∀ {os : List Oper} {s : St}, AO P md false ops os s k -> ON P N0 md ops os s k
 | [], _, h => h.2
 | _ :: _, _, h => by
  simp only [AO, Cn] at h;exact Cg h.2 fun _ hs => EJ hs
theorem OM {K0 : Kn} {Q : Exit -> St -> Prop} : ∀ (l : List Oper) (k0 : Nat) {K : Kn} {s : St} {a : Act} {u : World}, (∀ j, l[j]? = ops[k0 + j]?) -> Ext K0 K -> Sim df K s a u -> AO P md true ops l s (Q .normal) -> wpOps P ops (PostS df K0 Q) (List.range' k0 l.length) a u
 | [], k0, K, s, a, u, _, E0, S, h => by
  obtain ⟨K', t, E, S', q⟩ := h df K a u S;exact ⟨K', t, E0.trans E, S', q⟩
 | o :: l, k0, K, s, a, u, hl, E0, S, h => by
  have h0 : ops[k0]? = some o := by simpa using (hl 0).symm
  obtain ⟨K', t, E, S', q⟩ := h df K a u S;simp only [bi, List.range'_succ, wpOps_cons];exact MZ (MC P) h0 S' q (fun K2 s2 a2 w2 E2 S2 h2 => OM l (k0 + 1) (fun j => by have := hl (j + 1); simpa [Nat.add_assoc, Nat.add_comm 1 j] using this) ((E0.trans E).trans E2) S2 h2)
theorem CG (md : Nat -> Nat) {id : Nat} {l : List Oper} (h : AO P md true l.toArray l s (Q .normal)) : WP P (.region id l.toArray false) Q s := fun df K a u S => by
 refine wp_region ?_;have := OM l 0 (fun j => by simp) (Ext.refl K) S h;simpa [List.range_eq_range'] using this
theorem SV (md : Nat -> Nat) (hm : P.follows .mixedOrders = true) {id : Nat} {l : List Oper} (ho : GG P N0 md l.toArray (List.range' 0 l.length) (Array.replicate l.length false) = true)
  (h : AO P md false l.toArray l s (Q .normal)) : WP P (.region id l.toArray true) Q s := TC N0 md (MC P) hm ho (EJ h)
theorem R9 {K : α -> Option β} {f : (α -> Option β) -> Option β} (m : Nat) (hF : OptP (AA K f) G) (R : α -> St -> Prop)
  (h1 : ∀ J : α -> Option β, OptP (f J) G -> AO P md w ops (os.take m) s (fun s' => ∃ v, OptP (J v) G /\ R v s')) (h2 : ∀ v s', OptP (K v) G -> R v s' -> AO P md w ops (os.drop m) s' k) : AO P md w ops os s k := by
 have key : ∀ (m : Nat) (os : List Oper) (s : St) (Z : St -> Prop), AO P md w ops (os.take m) s Z -> (∀ s', Z s' -> AO P md w ops (os.drop m) s' k) -> AO P md w ops os s k := by
  intro m
  induction m with
  | zero =>
   intro os s Z h1 h2;simp only [List.take_zero, List.drop_zero, AO] at h1 h2
   cases os with
   | nil => exact Cn.bind h1 fun t ht => h2 t ht
   | cons o os => exact Cn.bind h1 fun t ht => h2 t ht
  | succ m ih =>
   intro os s Z h1 h2
   cases os with
   | nil => simp only [List.take_nil, List.drop_nil, AO] at h1 h2 ⊢; exact Cn.bind h1 fun t ht => h2 t ht
   | cons o os =>
    simp only [List.take_succ_cons, List.drop_succ_cons, AO] at h1 h2 ⊢;exact Cn.mono h1 fun t ht => Cg ht fun s' hs => ih os s' Z hs h2
 exact key m os s _ (h1 K hF) fun s' ⟨v, hv, hr⟩ => h2 v s' hv hr
theorem WK (m : Nat) (R : St -> Prop) (h1 : AO P md w ops (os.take m) s R) (h2 : ∀ s', R s' -> AO P md w ops (os.drop m) s' k) : AO P md w ops os s k :=
 R9 (α := Unit) (β := Unit) (G := fun _ => True) (K := fun _ => some ()) (f := fun J => J ()) m (by simp [AA, OptP]) (fun _ => R) (fun J hJ => by
  have mono : ∀ (os : List Oper) (s : St), AO P md w ops os s R -> AO P md w ops os s (fun s' => ∃ v, OptP (J v) (fun _ : Unit => True) /\ R s') := by
   intro os
   induction os with
   | nil => intro s h; exact Cn.mono h fun t ht => ⟨(), hJ, ht⟩
   | cons o os ih => intro s h; exact Cn.mono h fun t ht => Cg ht fun s' hs => ih s' hs
  exact mono _ _ h1) (fun _ s' _ hr => h2 s' hr)
section
variable {n : Nat} {l : List (Nat × D)} {h : Heap} {d : Nat} {t : TypeId} {pos : String} {af : Array Edge} {x y z : Operand}
theorem Ee (hk : k s) : AO P md w ops [] s k := Cn.of hk
theorem Lf {o : Oper} (h : EK P N0 md ops o s fun s' => AO P md w ops os s' k) : AO P md w ops (o :: os) s k := Cn.of h
theorem Yf {s t : St} (hw : WS s t) (hk : AO P md true ops os t k) : AO P md true ops os s k := by
 cases os with
 | nil => exact Cn.bind (X := fun q => q = t) (Cn.ws hw rfl) (by rintro _ rfl; exact hk)
 | cons o os => exact Cn.bind (X := fun q => q = t) (Cn.ws hw rfl) (by rintro _ rfl; exact hk)
theorem VI {s : St} (hk : Cn true s fun t => AO P md true ops os t k) : AO P md true ops os s k := by
 cases os with
 | nil => exact Cn.bind hk fun t ht => ht
 | cons o os => exact Cn.bind hk fun t ht => ht
theorem WS.one {v : D} (hw : Wd (Gl l d) v) : WS ⟨AH n l, h⟩ ⟨AH n ((d, v) :: l), h⟩ :=
 ⟨by simp [Ei], fun i => by
  simp only [EN];split
  ·show Wd (Gl l i) (match Nat.beq d i with | true => v | false => Gl l i)
   cases hb : Nat.beq d i with
   | true => rw [Nat.beq_eq] at hb; subst hb; exact hw
   | false => exact .refl _
  ·exact .refl _, WH.refl _⟩
theorem HL {v : D} (d : Nat) (hw : Wd (Gl l d) v) (hk : AO P md true ops os ⟨AH n ((d, v) :: l), h⟩ k) : AO P md true ops os ⟨AH n l, h⟩ k := Yf (WS.one hw) hk
theorem Cn_ghost {O : List (Nat × AObj)} {X : St -> Prop} (d q : Nat) (ok : OK h O) (hv : Gl l d = .snil) (hd : Nat.blt d n = true) (hk : ∀ r, r ≠ 0 -> OK h ((r, .room) :: O) -> X ⟨AH n ((d, .sl q [] r) :: l), Hp h ((r, .room) :: O)⟩) :
  Cn true ⟨AH n l, Hp h O⟩ X := fun df K a u S => by
 obtain ⟨E, H'⟩ := S.h.ghost q;have hnz : K.nx ≠ 0 := by have := S.h.nz; omega
 obtain ⟨e1, e2⟩ := Hp_new (x := .room) ok S.h.fresh hnz;simp only [e1] at H';refine ⟨K.ghost q, _, E, ⟨H', S.d, by rw [S.n]; simp [Ei], fun i => ?_⟩, hk K.nx hnz e2⟩;have hvi := S.v i;simp only [EN] at hvi ⊢;split
 ·rename_i hi;rw [if_pos hi] at hvi;show VR _ _ (match Nat.beq d i with | true => .sl q [] K.nx | false => Gl l i)
  cases hb : Nat.beq d i with
  | true =>
   rw [Nat.beq_eq] at hb; subst hb;rw [hv] at hvi;generalize a.tmps.getD d undef = z at hvi;cases hvi;exact .sln q K.nx (by simp [Kn.ghost])
  | false => exact hvi.mono E
 ·exact .any _
theorem SR {O : List (Nat × AObj)} (d q : Nat) (ok : OK h O) (hv : Gl l d = .snil) (hd : Nat.blt d n = true) (hk : ∀ r, r ≠ 0 -> OK h ((r, .room) :: O) -> AO P md true ops os ⟨AH n ((d, .sl q [] r) :: l), Hp h ((r, .room) :: O)⟩ k) :
  AO P md true ops os ⟨AH n l, Hp h O⟩ k := VI (Cn_ghost d q ok hv hd hk)
theorem SO {op : Op} {dst : Option Nat} {j e : Nat} {want b : Bool} (hj : (ops[j]?).bind (·.dst) = some e) (hv : opL n l (.tmp e) = .bool b) (hb : b = !want) (hk : AO P md w ops os ⟨Ez (AH n l) dst (.tup []), h⟩ k) :
  AO P md w ops (⟨dst, op, t, pos, af, some (j, want)⟩ :: os) ⟨AH n l, h⟩ k := Lf (by
 have e1 : (AH n l).getD e .any = .bool b := by have := congrFun (GM n l) (.tmp e); rw [hv] at this; exact this
 have hne : ¬ b = want := by rw [hb]; cases want <;> simp
 simp only [EK, H1, hj, e1, if_neg hne]
 exact hk)
theorem UE {op : Op} {dst : Option Nat} {j e : Nat} {want : Bool} (hj : (ops[j]?).bind (·.dst) = some e) (hv : opL n l (.tmp e) = .tup []) (hk : AO P md w ops os ⟨Ez (AH n l) dst (.tup []), h⟩ k) :
  AO P md w ops (⟨dst, op, t, pos, af, some (j, want)⟩ :: os) ⟨AH n l, h⟩ k := Lf (by
 have e1 : (AH n l).getD e .any = .tup [] := by have := congrFun (GM n l) (.tmp e); rw [hv] at this; exact this
 simp only [EK, H1, hj, e1]
 exact hk)
theorem Uv {v : D} (hk : AO P md w ops os ⟨AH n ((d, v) :: l), h⟩ k) : AO P md w ops os ⟨Ez (AH n l) (some d) v, h⟩ k := by
 simp only [Ez, M0]; exact hk
theorem Aab {op : Op} {dst : Option Nat} {j e : Nat} {want b : Bool} (hj : (ops[j]?).bind (·.dst) = some e) (hv : opL n l (.tmp e) = .bool b) (hb : b = want) (hk : EK P N0 md ops ⟨dst, op, t, pos, af, none⟩ ⟨AH n l, h⟩ fun s' => AO P md w ops os s' k) :
  AO P md w ops (⟨dst, op, t, pos, af, some (j, want)⟩ :: os) ⟨AH n l, h⟩ k := Lf (by
 have e1 : (AH n l).getD e .any = .bool b := by have := congrFun (GM n l) (.tmp e); rw [hv] at this; exact this
 simp only [EK, H1, hj, e1, if_pos hb]
 simpa only [EK] using hk)
end
end
theorem WS.refl (s : St) : WS s s := ⟨rfl, fun _ => .refl _, WH.refl _⟩
theorem WS.hd {n d : Nat} {l l' : List (Nat × D)} {h h' : Heap} {u v : D} (hw : Wd u v) (hr : WS ⟨AH n l', h⟩ ⟨AH n l, h'⟩) : WS ⟨AH n ((d, u) :: l'), h⟩ ⟨AH n ((d, v) :: l), h'⟩ :=
 ⟨by simp [Ei], fun i => by
  have := hr.c i;simp only [EN] at this ⊢;split
  ·rename_i hi;rw [if_pos hi, if_pos hi] at this;show Wd (match Nat.beq d i with | true => u | false => Gl l' i) (match Nat.beq d i with | true => v | false => Gl l i)
   cases Nat.beq d i with
   | true => exact hw
   | false => exact this
  ·exact .refl _, hr.h⟩
theorem WS.add {n t : Nat} {l l2 : List (Nat × D)} {h h2 : Heap} {u : D} (hr : WS ⟨AH n l, h⟩ ⟨AH n l2, h2⟩) (hn : Gl l2 t = .any) : WS ⟨AH n ((t, u) :: l), h⟩ ⟨AH n l2, h2⟩ :=
 ⟨by simp [Ei], fun i => by
  have := hr.c i;simp only [EN] at this ⊢;split
  ·rename_i hi;rw [if_pos hi, if_pos hi] at this;show Wd (match Nat.beq t i with | true => u | false => Gl l i) (Gl l2 i)
   cases hb : Nat.beq t i with
   | true => rw [Nat.beq_eq] at hb; subst hb; rw [hn]; exact .any _
   | false => exact this
  ·exact .refl _, hr.h⟩
theorem Y5 {b x : Bool} (hb : b = true) : Wd (.bool true) (.bool (b || x)) := by subst hb; exact .refl _
theorem Z5 {b x : Bool} (hb : b = false) : Wd (.bool x) (.bool (b || x)) := by subst hb; exact .refl _
theorem Xl {b x : Bool} (hb : b = true) : Wd (.bool x) (.bool (b && x)) := by subst hb; exact .refl _
theorem XM {b x : Bool} (hb : b = false) : Wd (.bool false) (.bool (b && x)) := by subst hb; exact .refl _
theorem Dr {P : Program} {md : Nat -> Nat} {ops : Array Oper} {os : List Oper} {k : St -> Prop} {n : Nat} {l : List (Nat × D)} {h : Heap} {b : Bool} (m d : Nat) (v : D)
  (hT : b = true -> AO P md true ops (os.take m) ⟨AH n l, h⟩ fun s' => WS s' ⟨AH n ((d, v) :: l), h⟩) (hE : b = false -> AO P md true ops (os.take m) ⟨AH n l, h⟩ fun s' => WS s' ⟨AH n ((d, v) :: l), h⟩)
  (hk : AO P md true ops (os.drop m) ⟨AH n ((d, v) :: l), h⟩ k) : AO P md true ops os ⟨AH n l, h⟩ k :=
 WK m (fun s' => WS s' ⟨AH n ((d, v) :: l), h⟩) (by
  cases b
  ·exact hE rfl
  ·exact hT rfl) fun s' hw => Yf hw hk
theorem DL {P : Program} {md : Nat -> Nat} {ops : Array Oper} {os : List Oper} {k : St -> Prop} {n : Nat} {l : List (Nat × D)} {h : Heap} {b : Bool} {β : Type} {G : β -> Prop} {K : Bool -> Option β} {X Y : (Bool -> Option β) -> Option β} (m d : Nat)
  (hF : OptP (AA K fun J => cond b (X J) (Y J)) G)
  (hT : ∀ J : Bool -> Option β, b = true -> OptP (X J) G -> AO P md true ops (os.take m) ⟨AH n l, h⟩ fun s' => ∃ v, OptP (J v) G /\ WS s' ⟨AH n ((d, .bool v) :: l), h⟩)
  (hE : ∀ J : Bool -> Option β, b = false -> OptP (Y J) G -> AO P md true ops (os.take m) ⟨AH n l, h⟩ fun s' => ∃ v, OptP (J v) G /\ WS s' ⟨AH n ((d, .bool v) :: l), h⟩)
  (hk : ∀ v, OptP (K v) G -> AO P md true ops (os.drop m) ⟨AH n ((d, .bool v) :: l), h⟩ k) : AO P md true ops os ⟨AH n l, h⟩ k :=
 R9 m hF (fun v s' => WS s' ⟨AH n ((d, .bool v) :: l), h⟩) (fun J hJ => by
  rcases MI hJ with ⟨hb, hJ⟩ | ⟨hb, hJ⟩
  ·exact hT J hb hJ
  ·exact hE J hb hJ) fun v s' hv hw => Yf hw (hk v hv)
end Go.Proofs.YtjofelloaofooaaGreatDoor
