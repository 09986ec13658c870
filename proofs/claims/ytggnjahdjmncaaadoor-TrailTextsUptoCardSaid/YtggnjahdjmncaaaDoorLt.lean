/- Trails: their order, said plainly. No condition. -/
import Derived.Test.YtggnjahdjmncaaaDoorLa
set_option linter.unusedSimpArgs false
set_option linter.unusedVariables false
set_option maxRecDepth 20000
namespace Go.Proofs.YtggnjahdjmncaaaDoor

/-- What an order's answers obey. -/
structure Cmp {α : Type} (f : α → α → Int) : Prop where
  rng : ∀ a b, f a b = -1 ∨ f a b = 0 ∨ f a b = 1
  anti : ∀ a b, f b a = - f a b
  trans : ∀ a b c, f a b ≤ 0 → f b c ≤ 0 → f a c ≤ 0

theorem Cmp.refl {α : Type} {f : α → α → Int} (h : Cmp f) (a : α) : f a a = 0 := by have := h.anti a a; omega
theorem Cmp.eqL {α : Type} {f : α → α → Int} (h : Cmp f) {a b : α} (c : α) (e : f a b = 0) : f b c = f a c := by
  have e' : f b a = 0 := by rw [h.anti a b, e]; rfl
  have h1 := h.trans a b c; have h2 := h.trans b a c
  have h3 := h.trans c b a; have h4 := h.trans c a b
  have a1 := h.anti a c; have a2 := h.anti b c
  have r1 := h.rng a c; have r2 := h.rng b c
  omega
theorem Cmp.eqR {α : Type} {f : α → α → Int} (h : Cmp f) {b c : α} (a : α) (e : f b c = 0) : f a b = f a c := by
  have := h.eqL a e
  have a1 := h.anti a b; have a2 := h.anti a c
  omega
theorem Cmp.lex {α β : Type} {f : α → α → Int} {g : β → β → Int} (hf : Cmp f) (hg : Cmp g) : Cmp (fun x y : α × β => if f x.1 y.1 ≠ 0 then f x.1 y.1 else g x.2 y.2) := by
  refine ⟨fun a b => ?_, fun a b => ?_, fun a b c h1 h2 => ?_⟩
  · by_cases h : f a.1 b.1 = 0
    · simpa [h] using hg.rng a.2 b.2
    · rw [if_pos h]; exact hf.rng _ _
  · have := hf.anti a.1 b.1
    by_cases h : f a.1 b.1 = 0
    · have h' : f b.1 a.1 = 0 := by omega
      simpa [h, h'] using hg.anti a.2 b.2
    · have h' : ¬ f b.1 a.1 = 0 := by omega
      rw [if_pos h, if_pos h', this]
  · by_cases e1 : f a.1 b.1 = 0
    · have e := hf.eqL c.1 e1
      by_cases e2 : f b.1 c.1 = 0
      · have e3 : f a.1 c.1 = 0 := by omega
        simp only [ne_eq, e1, e2, e3, not_true_eq_false, if_false] at h1 h2 ⊢
        exact hg.trans _ _ _ h1 h2
      · have e3 : ¬ f a.1 c.1 = 0 := by omega
        simp only [ne_eq, e2, e3, not_false_eq_true, if_true] at h2 ⊢
        omega
    · by_cases e2 : f b.1 c.1 = 0
      · have e := hf.eqR a.1 e2
        have e3 : ¬ f a.1 c.1 = 0 := by omega
        simp only [ne_eq, e1, e3, not_false_eq_true, if_true] at h1 ⊢
        omega
      · simp only [ne_eq, e1, e2, not_false_eq_true, if_true] at h1 h2
        have h3 := hf.trans _ _ _ h1 h2
        by_cases e3 : f a.1 c.1 = 0
        · exfalso
          have e4 := hf.anti a.1 b.1
          have e5 := hf.eqL b.1 (show f c.1 a.1 = 0 by rw [hf.anti, e3]; rfl)
          have e6 := hf.anti b.1 c.1
          have r := hf.rng a.1 b.1
          omega
        · simp only [ne_eq, e3, not_false_eq_true, if_true]; exact h3
theorem Cmp.comap {α β : Type} {f : α → α → Int} (hf : Cmp f) (k : β → α) : Cmp (fun x y => f (k x) (k y)) :=
  ⟨fun a b => hf.rng _ _, fun a b => hf.anti _ _, fun a b c => hf.trans _ _ _⟩

def cmpI (a b : Int) : Int := if a < b then -1 else if b < a then 1 else 0
theorem cmpI_cmp : Cmp cmpI := by
  refine ⟨fun a b => ?_, fun a b => ?_, fun a b c => ?_⟩ <;> unfold cmpI <;> (repeat' split) <;> omega

def cmpB : List UInt8 → List UInt8 → Int
  | [], [] => 0
  | [], _ :: _ => -1
  | _ :: _, [] => 1
  | a :: x, b :: y => if cmpI a.toNat b.toNat ≠ 0 then cmpI a.toNat b.toNat else cmpB x y
theorem cmpB_cmp : Cmp cmpB := by
  have hI := cmpI_cmp
  refine ⟨fun a => ?_, fun a => ?_, fun a => ?_⟩
  · induction a with
    | nil => intro b; cases b <;> simp [cmpB]
    | cons x a ih =>
      intro b
      cases b with
      | nil => simp [cmpB]
      | cons y b =>
        simp only [cmpB]
        split
        · exact hI.rng _ _
        · exact ih b
  · induction a with
    | nil => intro b; cases b <;> simp [cmpB]
    | cons x a ih =>
      intro b
      cases b with
      | nil => simp [cmpB]
      | cons y b =>
        simp only [cmpB]
        have := hI.anti x.toNat y.toNat
        have := ih b
        split <;> split <;> omega
  · induction a with
    | nil => intro b c h1 h2; cases b <;> cases c <;> simp_all [cmpB]
    | cons x a ih =>
      intro b c h1 h2
      cases b with
      | nil => simp [cmpB] at h1
      | cons y b =>
        cases c with
        | nil => simp [cmpB] at h2
        | cons z c =>
          simp only [cmpB] at h1 h2 ⊢
          have t := hI.trans x.toNat y.toNat z.toNat
          have l := fun e => hI.eqL (a := (x.toNat : Int)) (b := y.toNat) z.toNat e
          have r := fun e => hI.eqR (b := (y.toNat : Int)) (c := z.toNat) x.toNat e
          have an := hI.anti (x.toNat : Int) y.toNat
          have l2 := fun e => hI.eqL (a := (x.toNat : Int)) (b := z.toNat) y.toNat e
          have an2 := hI.anti (y.toNat : Int) z.toNat
          have := ih b c
          split at h1 <;> split at h2 <;> split <;> omega
theorem cmpB_less : ∀ a b : List UInt8, (if Op.bytesLess a b then (-1 : Int) else if !(Op.bytesLess a b || a == b) then 1 else 0) = cmpB a b
  | [], [] => by simp [Op.bytesLess, cmpB]
  | [], _ :: _ => by simp [Op.bytesLess, cmpB]
  | _ :: _, [] => by simp [Op.bytesLess, cmpB]
  | a :: x, b :: y => by
    have ih := cmpB_less x y
    simp only [Op.bytesLess, cmpB, cmpI]
    rw [← ih]
    by_cases h1 : a < b
    · have : a.toNat < b.toNat := h1
      have h3 : ((a.toNat : Int) < b.toNat) := by omega
      simp [h1, h3]
    · by_cases h2 : a = b
      · subst h2
        simp [UInt8.lt_irrefl]
      · have h4 : ¬ a.toNat < b.toNat := h1
        have h5 : a.toNat ≠ b.toNat := fun e => h2 (UInt8.toNat_inj.1 e)
        have h6 : ¬ ((a.toNat : Int) < b.toNat) := by omega
        have h7 : ((b.toNat : Int) < a.toNat) := by omega
        simp [h1, h2, h6, h7]

/-- The common run of steps. -/
def cmpP : List Int → List Int → Int
  | a :: l, b :: m => if cmpI a b ≠ 0 then cmpI a b else cmpP l m
  | _, _ => 0
/-- Steps, in order: a shorter run first. -/
def cmpL : List Int → List Int → Int
  | [], [] => 0
  | [], _ :: _ => -1
  | _ :: _, [] => 1
  | a :: l, b :: m => if cmpI a b ≠ 0 then cmpI a b else cmpL l m
theorem cmpL_cmp : Cmp cmpL := by
  have hI := cmpI_cmp
  refine ⟨fun a => ?_, fun a => ?_, fun a => ?_⟩
  · induction a with
    | nil => intro b; cases b <;> simp [cmpL]
    | cons x a ih =>
      intro b
      cases b with
      | nil => simp [cmpL]
      | cons y b =>
        simp only [cmpL]
        split
        · exact hI.rng _ _
        · exact ih b
  · induction a with
    | nil => intro b; cases b <;> simp [cmpL]
    | cons x a ih =>
      intro b
      cases b with
      | nil => simp [cmpL]
      | cons y b =>
        simp only [cmpL]
        have := hI.anti x y
        have := ih b
        split <;> split <;> omega
  · induction a with
    | nil => intro b c h1 h2; cases b <;> cases c <;> simp_all [cmpL]
    | cons x a ih =>
      intro b c h1 h2
      cases b with
      | nil => simp [cmpL] at h1
      | cons y b =>
        cases c with
        | nil => simp [cmpL] at h2
        | cons z c =>
          simp only [cmpL] at h1 h2 ⊢
          have t := hI.trans x y z
          have l := fun e => hI.eqL (a := x) (b := y) z e
          have r := fun e => hI.eqR (b := y) (c := z) x e
          have an := hI.anti x y
          have l2 := fun e => hI.eqL (a := x) (b := z) y e
          have an2 := hI.anti y z
          have := ih b c
          split at h1 <;> split at h2 <;> split <;> omega
theorem cmpI_zero {a b : Int} (h : cmpI a b = 0) : a = b := by unfold cmpI at h; (repeat' split at h) <;> omega
theorem cmpI_self (a : Int) : cmpI a a = 0 := cmpI_cmp.refl a
theorem cmpL_zero : ∀ {a b : List Int}, cmpL a b = 0 → a = b
  | [], [], _ => rfl
  | [], _ :: _, h => by simp [cmpL] at h
  | _ :: _, [], h => by simp [cmpL] at h
  | a :: x, b :: y, h => by
    simp only [cmpL] at h
    split at h
    · rename_i h1; exact absurd h h1
    · rename_i h1
      rw [cmpI_zero (Classical.not_not.1 h1), cmpL_zero h]
theorem cmpL_eq : ∀ a b : List Int, cmpL a b = if cmpP a b ≠ 0 then cmpP a b else cmpI a.length b.length
  | [], [] => by simp [cmpL, cmpP, cmpI]
  | [], _ :: l => by simp [cmpL, cmpP, cmpI] <;> omega
  | _ :: l, [] => by simp [cmpL, cmpP, cmpI] <;> omega
  | a :: x, b :: y => by
    have ih := cmpL_eq x y
    have e : cmpI ((a :: x).length : Int) ((b :: y).length : Int) = cmpI x.length y.length := by
      simp only [cmpI, List.length_cons]
      (repeat' split) <;> omega
    rw [e]
    simp only [cmpL, cmpP]
    by_cases h : cmpI a b = 0
    · simp [h, ih]
    · simp [h]

/-- Which run begins with which. -/
theorem pre_le : ∀ {l m : List Int}, l <+: m → cmpL l m ≤ 0
  | [], [], _ => by simp [cmpL]
  | [], _ :: _, _ => by simp [cmpL]
  | a :: l, [], h => by simp at h
  | a :: l, b :: m, h => by
    obtain ⟨rfl, h'⟩ := List.cons_prefix_cons.1 h
    simp only [cmpL, cmpI_self]
    simpa using pre_le h'
theorem pre_lt : ∀ {l m n : List Int}, l <+: m → cmpL l n < 0 → ¬ l <+: n → cmpL m n < 0
  | [], _, _, _, _, h => absurd (List.nil_prefix) h
  | a :: l, [], _, h, _, _ => by simp at h
  | a :: l, b :: m, [], _, h, _ => by simp [cmpL] at h
  | a :: l, b :: m, c :: n, h, h1, h2 => by
    obtain ⟨rfl, h'⟩ := List.cons_prefix_cons.1 h
    simp only [cmpL] at h1 ⊢
    by_cases e : cmpI a c = 0
    · have := cmpI_zero e
      subst this
      simp only [cmpI_self, ne_eq, not_true_eq_false, if_false] at h1 ⊢
      exact pre_lt h' h1 (fun h3 => h2 (List.cons_prefix_cons.2 ⟨rfl, h3⟩))
    · simp only [ne_eq, e, not_false_eq_true, if_true] at h1 ⊢
      exact h1

def nameC (a b : T_api_Name) : Int := if cmpB a.URI b.URI ≠ 0 then cmpB a.URI b.URI else cmpB a.Local b.Local
theorem nameC_cmp : Cmp nameC := (cmpB_cmp.lex cmpB_cmp).comap fun x : T_api_Name => (x.URI, x.Local)
/-- The tail behind the steps. -/
def tailC (x y : Bool × T_api_Name) : Int := if x.1 && y.1 then nameC x.2 y.2 else if x.1 then 1 else if y.1 then -1 else 0
theorem tailC_cmp : Cmp tailC := by
  have h := nameC_cmp
  refine ⟨fun a b => ?_, fun a b => ?_, fun a b c => ?_⟩
  · have := h.rng a.2 b.2
    rcases a with ⟨_ | _, a⟩ <;> rcases b with ⟨_ | _, b⟩ <;> simp_all [tailC]
  · have := h.anti a.2 b.2
    rcases a with ⟨_ | _, a⟩ <;> rcases b with ⟨_ | _, b⟩ <;> simp_all [tailC]
  · have := h.trans a.2 b.2 c.2
    rcases a with ⟨_ | _, a⟩ <;> rcases b with ⟨_ | _, b⟩ <;> rcases c with ⟨_ | _, c⟩ <;> simp_all [tailC]
def trailC (p q : T_trail_Trail) : Int := if cmpL p.Steps q.Steps ≠ 0 then cmpL p.Steps q.Steps else tailC (p.Attr, p.Name) (q.Attr, q.Name)
theorem trailC_cmp : Cmp trailC := (cmpL_cmp.lex tailC_cmp).comap fun x : T_trail_Trail => (x.Steps, x.Attr, x.Name)

theorem F_cmpI (a b : Int) : F_cmp_Compare_int a b = some (cmpI a b) := by
  unfold F_cmp_Compare_int F_cmp_isNaN_int cmpI
  simp only [bne_self_eq_false, Option.bind_some, cond_false]
  by_cases h : a < b
  · simp [h]
  · by_cases h2 : b < a <;> simp [h, h2]
theorem F_cmpS (a b : List UInt8) : F_cmp_Compare_string a b = some (cmpB a b) := by
  unfold F_cmp_Compare_string F_cmp_isNaN_string
  rw [← cmpB_less]
  simp only [beq_self_eq_true, Bool.not_true, Option.bind_some, cond_false]
  cases h1 : Op.bytesLess a b <;> cases h2 : (a == b) <;> rfl
theorem F_or2 (x y : Int) : F_cmp_Or_int [x, y] = some (if x ≠ 0 then x else y) := by
  have key : ∀ n, iter (F_cmp_Or_int_l0 [x, y]) (n + 3) (0 : Int) = some (if x ≠ 0 then .inr x else if y ≠ 0 then .inr y else .inl ()) := fun n => by
    have a0 : ∀ r, F_cmp_Or_int_l0 [x, y] r 0 = if x ≠ 0 then some (.inr x) else r 1 := fun r => by
      unfold F_cmp_Or_int_l0
      by_cases h : x = 0
      · subst h; rfl
      · have : (x != 0) = true := by simpa using h
        simp [idx, h, this]
    have a1 : ∀ r, F_cmp_Or_int_l0 [x, y] r 1 = if y ≠ 0 then some (.inr y) else r 2 := fun r => by
      unfold F_cmp_Or_int_l0
      by_cases h : y = 0
      · subst h; rfl
      · have : (y != 0) = true := by simpa using h
        simp [idx, h, this]
    have a2 : ∀ r, F_cmp_Or_int_l0 [x, y] r 2 = some (.inl ()) := fun r => rfl
    show F_cmp_Or_int_l0 [x, y] (iter _ (n + 2)) 0 = _
    rw [a0]
    show (if x ≠ 0 then _ else F_cmp_Or_int_l0 [x, y] (iter _ (n + 1)) 1) = _
    rw [a1]
    show (if x ≠ 0 then _ else if y ≠ 0 then _ else F_cmp_Or_int_l0 [x, y] (iter _ n) 2) = _
    rw [a2]
    by_cases h : x = 0
    · by_cases h2 : y = 0 <;> simp [h, h2]
    · simp [h]
  unfold F_cmp_Or_int
  simp only [letJ]
  rw [show FUEL = 18446744073709551613 + 3 from rfl, key]
  by_cases h : x = 0
  · by_cases h2 : y = 0 <;> simp [h, h2]
  · simp [h]
theorem F_order (a b : T_api_Name) : F_tree_Order a b = some (nameC a b) := by
  unfold F_tree_Order
  rw [F_cmpS, F_cmpS, Option.bind_some, Option.bind_some, F_or2, Option.bind_some]; rfl

theorem drop_ne {α : Type} {l : List α} {i : Nat} (h : i < l.length) : l.drop i = l[i] :: l.drop (i + 1) := List.drop_eq_getElem_cons h
theorem F_cmpT (p q : T_trail_Trail) (hp : p.Steps.length ≤ 9223372036854775807) (hq : q.Steps.length ≤ 9223372036854775807) : F_trail_Compare p q = some (trailC p q) := by
  unfold F_trail_Compare
  simp only [letJ]
  obtain ⟨o, h1, h2⟩ := iter_spec (b := F_trail_Compare_l0 p q) (fun i x => x = (i : Int) ∧ cmpP p.Steps q.Steps = cmpP (p.Steps.drop i) (q.Steps.drop i))
    (fun o => match o with | .inl _ => cmpP p.Steps q.Steps = 0 | .inr c => c ≠ 0 ∧ c = cmpP p.Steps q.Steps) (min p.Steps.length q.Steps.length) (x0 := (0 : Int)) ⟨rfl, by simp⟩
    (fun i x rec hi ⟨hx, hI⟩ => by
      subst hx
      have hi1 : i < p.Steps.length := by omega
      have hi2 : i < q.Steps.length := by omega
      have hc : F_trail_Compare_l0 p q rec (i : Int) = cond (cmpI p.Steps[i] q.Steps[i] != 0) (some (.inr (cmpI p.Steps[i] q.Steps[i]))) (rec ((i + 1 : Nat) : Int)) := by
        unfold F_trail_Compare_l0
        rw [decide_eq_true (by split <;> omega), cond_true, idx_some hi1, Option.bind_some, idx_some hi2, Option.bind_some, F_cmpI, Option.bind_some, w64 (by omega) (by omega)]; rfl
      rw [drop_ne hi1, drop_ne hi2, cmpP] at hI
      by_cases e : cmpI p.Steps[i] q.Steps[i] = 0
      · refine .inl ⟨((i + 1 : Nat) : Int), ?_, rfl, ?_⟩
        · rw [hc, e]; rfl
        · simpa [e] using hI
      · refine .inr ⟨.inr (cmpI p.Steps[i] q.Steps[i]), ?_, e, ?_⟩
        · have : (cmpI p.Steps[i] q.Steps[i] != 0) = true := by simpa using e
          rw [hc, this]; rfl
        · simpa [e] using hI.symm)
    (fun x rec ⟨hx, hI⟩ => ⟨.inl (), by
      subst hx
      unfold F_trail_Compare_l0
      rw [decide_eq_false (by split <;> omega), cond_false], by
        show cmpP p.Steps q.Steps = 0
        rw [hI]
        rcases Nat.le_total p.Steps.length q.Steps.length with h | h
        · rw [Nat.min_eq_left h, List.drop_length]; simp [cmpP]
        · rw [Nat.min_eq_right h, List.drop_length]; cases p.Steps.drop q.Steps.length <;> simp [cmpP]⟩) (n := FUEL) (by unfold FUEL; omega)
  rw [h1, Option.bind_some]
  unfold trailC
  rw [cmpL_eq]
  cases o with
  | inr c =>
    obtain ⟨h3, h4⟩ := h2
    subst h4
    simp [h3]
  | inl u =>
    simp only at h2
    simp only [h2, ne_eq, not_true_eq_false, if_false, F_cmpI, Option.bind_some]
    by_cases e : cmpI p.Steps.length q.Steps.length = 0
    · simp only [e, bne_self_eq_false, cond_false, F_order, Option.bind_some, not_true_eq_false, if_false, tailC]
      cases p.Attr <;> cases q.Attr <;> rfl
    · have : (cmpI p.Steps.length q.Steps.length != 0) = true := by simpa using e
      simp [this, e]
theorem F_eqI (l m : List Int) (hl : l.length ≤ 9223372036854775807) : F_slices_Equal_int_int l m = some (l == m) := by
  unfold F_slices_Equal_int_int
  by_cases hlen : l.length = m.length
  · have e0 : ((l.length : Int) != (m.length : Int)) = false := by simp [hlen]
    rw [e0, cond_false]
    simp only [letJ]
    obtain ⟨o, h1, h2⟩ := iter_spec (b := F_slices_Equal_int_int_l0 l m) (fun i x => x = (i : Int) ∧ l.take i = m.take i)
      (fun o => match o with | .inl _ => l = m | .inr c => c = false ∧ l ≠ m) l.length (x0 := (0 : Int)) ⟨rfl, by simp⟩
      (fun i x rec hi ⟨hx, hI⟩ => by
        subst hx
        have hi2 : i < m.length := by omega
        have hc : F_slices_Equal_int_int_l0 l m rec (i : Int) = cond (l[i] != m[i]) (some (.inr false)) (rec ((i + 1 : Nat) : Int)) := by
          unfold F_slices_Equal_int_int_l0
          rw [decide_eq_true (by omega), cond_true, idx_some hi, Option.bind_some, idx_some hi2, Option.bind_some, w64 (by omega) (by omega)]; rfl
        by_cases e : l[i] = m[i]
        · refine .inl ⟨((i + 1 : Nat) : Int), ?_, rfl, ?_⟩
          · rw [hc, e, bne_self_eq_false]; rfl
          · rw [List.take_add_one, List.take_add_one, hI, List.getElem?_eq_getElem hi, List.getElem?_eq_getElem hi2, e]
        · refine .inr ⟨.inr false, ?_, rfl, ?_⟩
          · have : (l[i] != m[i]) = true := by simpa using e
            rw [hc, this]; rfl
          · intro h; subst h; exact e rfl)
      (fun x rec ⟨hx, hI⟩ => ⟨.inl (), by
        subst hx
        unfold F_slices_Equal_int_int_l0
        rw [decide_eq_false (by omega), cond_false], by
          show l = m
          rw [List.take_length] at hI
          rw [hI, hlen, List.take_length]⟩) (n := FUEL) (by unfold FUEL; omega)
    rw [h1, Option.bind_some]
    cases o with
    | inl u => simp only at h2; simp [h2]
    | inr c => obtain ⟨h3, h4⟩ := h2; subst h3; simp [h4]
  · have e0 : ((l.length : Int) != (m.length : Int)) = true := by simp; omega
    rw [e0, cond_true]
    have : (l == m) = false := by simp; intro h; exact hlen (by rw [h])
    rw [this]
theorem slc_take {α : Type} {l : List α} {n : Nat} (h : n ≤ l.length) : slc l (0 : Int) (n : Int) = some (l.take n) := by
  unfold slc; rw [if_pos (by omega)]; simp
/-- What lies under what. -/
def underP (p q : T_trail_Trail) : Bool := if p.Attr then trailC p q == 0 else p.Steps.isPrefixOf q.Steps
theorem isPre_iff (l m : List Int) : l.isPrefixOf m = (decide (l.length ≤ m.length) && (l == m.take l.length)) := by
  rw [Bool.eq_iff_iff]
  simp only [List.isPrefixOf_iff_prefix, Bool.and_eq_true, decide_eq_true_eq, beq_iff_eq]
  rw [List.prefix_iff_eq_take]
  exact ⟨fun h => ⟨by rw [h, List.length_take]; omega, h⟩, fun h => h.2⟩
theorem F_under (p q : T_trail_Trail) (hp : p.Steps.length ≤ 9223372036854775807) (hq : q.Steps.length ≤ 9223372036854775807) : F_trail_Under p q = some (underP p q) := by
  unfold F_trail_Under underP
  cases hA : p.Attr
  · simp only [cond_false, letJ, Bool.false_eq_true, if_false]
    rw [isPre_iff]
    by_cases h : p.Steps.length ≤ q.Steps.length
    · rw [decide_eq_true (by omega), cond_true, slc_take h, Option.bind_some, F_eqI _ _ hp, Option.bind_some]
      simp [h]
    · rw [decide_eq_false (by omega), cond_false]
      simp [h]
  · simp only [cond_true, F_cmpT p q hp hq, Option.bind_some, if_true]

theorem under_le {p q : T_trail_Trail} (h : underP p q = true) : trailC p q ≤ 0 := by
  unfold underP at h
  split at h
  · have : trailC p q = 0 := by simpa using h
    omega
  · rename_i hA
    have hle := pre_le (List.isPrefixOf_iff_prefix.1 h)
    unfold trailC
    split
    · exact hle
    · have : p.Attr = false := by simpa using hA
      unfold tailC
      simp only [this, Bool.false_and, Bool.false_eq_true, if_false]
      split <;> omega
theorem under_anti {p q : T_trail_Trail} (h : underP p q = true) (h2 : underP q p = true) : trailC p q = 0 := by
  have a := under_le h; have b := under_le h2
  have := trailC_cmp.anti p q
  omega
theorem under_lt {p q r : T_trail_Trail} (h : underP p q = true) (h1 : trailC p r < 0) (h2 : underP p r = false) : trailC q r < 0 := by
  unfold underP at h h2
  by_cases hA : p.Attr = true
  · rw [if_pos hA] at h
    have e : trailC p q = 0 := by simpa using h
    rw [trailC_cmp.eqL r e]; exact h1
  · rw [if_neg hA] at h h2
    have h3 := List.isPrefixOf_iff_prefix.1 h
    have h4 : ¬ p.Steps <+: r.Steps := fun e => by
      rw [List.isPrefixOf_iff_prefix.2 e] at h2; cases h2
    have h5 : cmpL p.Steps r.Steps ≠ 0 := fun e => h4 (by rw [cmpL_zero e]; exact List.prefix_refl _)
    have h6 : cmpL p.Steps r.Steps < 0 := by unfold trailC at h1; rw [if_pos h5] at h1; exact h1
    have h7 := pre_lt h3 h6 h4
    unfold trailC
    rw [if_pos (by omega)]; exact h7
end Go.Proofs.YtggnjahdjmncaaaDoor
