/- Tokens and spots in a figure's text: what the program reads, and the reference. No condition. -/
import Derived.Test.YtocfjohangcajaaDoorLcs
import Derived.Test.YtocfjohangcajaaDoorLbx
import Derived.Lib.AtoiTie
set_option linter.unusedSimpArgs false
set_option linter.unusedVariables false
namespace Go.Proofs.YtocfjohangcajaaDoor
open Fl
theorem cadd_I {z w : Nat × Nat} {p q : Int × Int} (h : Sp z p) (g : Sp w q) (h1 : (p.1 + q.1).natAbs ≤ 9007199254740992) (h2 : (p.2 + q.2).natAbs ≤ 9007199254740992) : ∃ r, cadd z w = some r ∧ Sp r (p.1 + q.1, p.2 + q.2) := by
  obtain ⟨r, e1, e2⟩ := fadd_I h.1 g.1 h1
  obtain ⟨s, e3, e4⟩ := fadd_I h.2 g.2 h2
  exact ⟨(r, s), by simp [cadd, e1, e3], e2, e4⟩
theorem inB_iff (p : Int × Int) : (inB p.1 && inB p.2) = true ↔ InB p := by
  unfold inB InB
  simp only [Bool.and_eq_true, decide_eq_true_eq]
  omega
/-- A moved spot. -/
theorem SpL.snoc {zs : List (Nat × Nat)} {ps : List (Int × Int)} (H : SpL zs ps) {z : Nat × Nat} {p : Int × Int} (h1 : Sp z p) (h2 : InB p) : SpL (zs ++ [z]) (ps ++ [p]) where
  len := by simp [H.len]
  sp := fun i h3 h4 => by
    have hl := H.len
    rw [List.length_append, List.length_singleton] at h3 h4
    by_cases hi : i < zs.length
    · rw [List.getElem_append_left hi, List.getElem_append_left (by omega)]; exact H.sp i hi (by omega)
    · have hz : i = zs.length := by omega
      subst hz
      rw [List.getElem_append_right (Nat.le_refl _), List.getElem_append_right (by omega)]
      simpa using h1
  inb := fun q hq => by
    rw [List.mem_append, List.mem_singleton] at hq
    rcases hq with hq | rfl
    · exact H.inb q hq
    · exact h2

theorem fne_I {x y : Nat} {a b : Int} (hx : isI x a) (hy : isI y b) (h : a = b) : fne x y = false := by
  unfold fne; rw [ord_I hx hy]
  rcases cmp_cases a b with ⟨h2, e⟩ | ⟨h2, e⟩ | ⟨h2, e⟩ <;> rw [e]
  · omega
  · rfl
  · omega
theorem mmillion_I : isI 13920209183539462144 (-1000000) := ⟨true, 8589934592000000, -33, by decide, by decide⟩
theorem f2i_I {x : Nat} {a : Int} (hx : isI x a) (h : a.natAbs ≤ 9007199254740992) : f2i .i64 x = some a := by
  have hd : (FloatKind.f64.decode x).toInt .zero = some a := toInt_I hx
  unfold f2i
  rw [hd]
  have e1 : IntKind.min .i64 = -9223372036854775808 := by decide
  have e2 : IntKind.max .i64 = 9223372036854775807 := by decide
  simp only [e1, e2]
  rw [if_pos (by omega)]
theorem fge_I {x y : Nat} {a b : Int} (hx : isI x a) (hy : isI y b) : fge x y = decide (b ≤ a) := by
  unfold fge; rw [ord_I hx hy]
  rcases cmp_cases a b with ⟨h, e⟩ | ⟨h, e⟩ | ⟨h, e⟩ <;> rw [e]
  · rw [decide_eq_false (by omega)]; rfl
  · rw [decide_eq_true (by omega)]; rfl
  · rw [decide_eq_true (by omega)]; rfl
theorem from_I {z : Nat × Nat} {p : Int × Int} (h : Sp z p) (h1 : p.1.natAbs ≤ 9007199254740992) (h2 : p.2.natAbs ≤ 9007199254740992) :
    F_lecternref10_From z = some (if (inB p.1 && inB p.2) = true then (⟨p.1, p.2⟩, true) else (⟨0, 0⟩, false)) := by
  have hb : ((((decide (-1000000 ≤ p.1)) && (decide (p.1 ≤ 1000000))) && (decide (-1000000 ≤ p.2))) && (decide (p.2 ≤ 1000000))) = (inB p.1 && inB p.2) := by
    unfold inB; simp only [Bool.and_assoc]
  unfold F_lecternref10_From
  rw [fge_I h.1 mmillion_I, fle_I h.1 million_I, fge_I h.2 mmillion_I, fle_I h.2 million_I, hb]
  cases hc : (inB p.1 && inB p.2) with
  | false => rfl
  | true =>
    simp only [letJ, Bool.not_true, cond_false, f2i_I h.1 h1, f2i_I h.2 h2, Option.bind_some, feq_I (i2f_I p.1 h1) h.1, feq_I (i2f_I p.2 h2) h.2, decide_true, cond_true, if_true]

theorem len_sum2 {α : Type} (f : α → Nat) : ∀ l : List α, (∀ x ∈ l, 1 ≤ f x) → l.length ≤ (l.map f).sum
  | [], _ => by simp
  | x :: l, h => by
    have h1 := h x (List.mem_cons_self ..)
    have h2 := len_sum2 f l (fun y hy => h y (List.mem_cons_of_mem _ hy))
    simp only [List.map_cons, List.sum_cons, List.length_cons]; omega
def wl (p : List T_lecternlaw10_Line) : FgW := p.map fun l => (prs l.Parts, l.Closed)
theorem figW_of {p : List T_lecternlaw10_Line} (h : okFig p = true) : FigW (p.map mkF) (wl p) := by
  obtain ⟨h1, h2, h3⟩ := okFig_spec h
  have hsp : ∀ ps : List (Int × Int), InL ps → SpL (ps.map sF) ps := by
    intro ps hi
    refine ⟨by simp, ?_, hi⟩
    intro i g1 g2
    rw [List.getElem_map]
    exact sp_of _ _ (hi _ (List.getElem_mem _))
  refine ⟨by simp [wl], ?_, h3, ?_⟩
  · intro i g1 g2
    rw [List.length_map] at g1
    simp only [wl, List.getElem_map]
    refine ⟨?_, hsp _ (h1 _ (List.getElem_mem _)), rfl⟩
    intro h4
    apply h2 _ (List.getElem_mem g1)
    simpa [mkF] using h4
  · rw [List.length_map]
    have := len_sum2 (fun l : T_lecternlaw10_Line => (prs l.Parts).length) p (fun l hl => List.length_pos_iff.2 (h2 l hl))
    have e : lens (p.map mkF) = (p.map fun l : T_lecternlaw10_Line => (prs l.Parts).length).sum := by
      unfold lens
      rw [List.map_map]
      congr 1
      apply List.map_congr_left
      intro l _
      simp [mkF]
    omega
theorem wl_ne {p : List T_lecternlaw10_Line} (h : okFig p = true) : ∀ x ∈ wl p, x.1 ≠ [] := by
  obtain ⟨h1, h2, h3⟩ := okFig_spec h
  intro x hx
  unfold wl at hx
  rw [List.mem_map] at hx
  obtain ⟨l, hl, rfl⟩ := hx
  exact h2 l hl

/-! ## Loops that pass over bytes -/
def sk (P : UInt8 → Bool) (s : List UInt8) (i : Nat) : Nat := i + ((s.drop i).takeWhile P).length
theorem sk_le (P : UInt8 → Bool) (s : List UInt8) (i : Nat) (h : i ≤ s.length) : i ≤ sk P s i ∧ sk P s i ≤ s.length := by
  unfold sk
  have := (List.takeWhile_sublist P (l := s.drop i)).length_le
  rw [List.length_drop] at this
  omega
theorem sk_end (P : UInt8 → Bool) (s : List UInt8) : sk P s s.length = s.length := by simp [sk]
theorem sk_step {P : UInt8 → Bool} {s : List UInt8} {i : Nat} (h : i < s.length) : sk P s i = if P s[i] = true then sk P s (i + 1) else i := by
  unfold sk
  rw [List.drop_eq_getElem_cons h, List.takeWhile_cons]
  split
  · rw [List.length_cons]; omega
  · rfl
theorem sk_stop {P : UInt8 → Bool} {s : List UInt8} : ∀ (j i : Nat), i + j = s.length → (h : sk P s i < s.length) → P s[sk P s i] = false
  | 0, i, e, h => by
    have : i = s.length := by omega
    subst this
    rw [sk_end] at h; omega
  | j + 1, i, e, h => by
    have hi : i < s.length := by omega
    cases hP : P s[i] with
    | true =>
      have e2 : sk P s i = sk P s (i + 1) := by rw [sk_step hi, if_pos hP]
      have := sk_stop (P := P) (s := s) j (i + 1) (by omega) (by rw [← e2]; exact h)
      simpa only [e2] using this
    | false =>
      have e2 : sk P s i = i := by rw [sk_step hi, if_neg (by simp [hP])]
      simp only [e2, hP]
theorem scan_loop {b : (Int → Option Int) → Int → Option Int} (P : UInt8 → Bool) (s : List UInt8)
    (hb : ∀ (rec : Int → Option Int) (i : Nat) (h : i < s.length), b rec (i : Int) = cond (P s[i]) (rec ((i + 1 : Nat) : Int)) (some (i : Int)))
    (he : ∀ rec : Int → Option Int, b rec (s.length : Int) = some (s.length : Int)) :
    ∀ (n j i : Nat), i + j = s.length → j < n → iter b n (i : Int) = some ((sk P s i : Nat) : Int)
  | 0, j, i, _, h => by omega
  | n + 1, 0, i, e, h => by
    have : i = s.length := by omega
    subst this
    show b (iter b n) _ = _
    rw [he, sk_end]
  | n + 1, j + 1, i, e, h => by
    have hi : i < s.length := by omega
    show b (iter b n) _ = _
    rw [hb _ i hi, sk_step hi]
    cases hP : P s[i] with
    | true => rw [cond_true, if_pos rfl]; exact scan_loop P s hb he n j (i + 1) (by omega) (by omega)
    | false => rw [cond_false, if_neg (by simp)]

/-! ## Bytes -/
theorem all_u8 {p : UInt8 → Bool} (h : (List.range 256).all (fun n => p (UInt8.ofNat n)) = true) (c : UInt8) : p c = true := by
  rw [List.all_eq_true] at h
  have := h c.toNat (List.mem_range.2 c.toNat_lt)
  simpa using this
def blank (c : UInt8) : Bool := ((((((c.toNat : Int) == 32) || ((c.toNat : Int) == 44)) || ((c.toNat : Int) == 9)) || ((c.toNat : Int) == 10)) || ((c.toNat : Int) == 13))
def isL (c : UInt8) : Bool := decide ((0 : Int) ≤ Lib.indexByte [77, 109, 76, 108, 72, 104, 86, 118, 90, 122] c)
def dig (c : UInt8) : Bool := decide ((48 : Int) ≤ (c.toNat : Int)) && decide ((c.toNat : Int) ≤ 57)
def sgn (c : UInt8) : Bool := ((c.toNat : Int) == 45) || ((c.toNat : Int) == 43)
theorem nat_u8 (c : UInt8) : ((c.toNat : Int)).toNat.toUInt8 = c := by simp
theorem blank_ix (c : UInt8) : decide ((0 : Int) ≤ Lib.indexByte [32, 44, 9, 10, 13] c) = blank c := by
  have := all_u8 (p := fun c => decide ((0 : Int) ≤ Lib.indexByte [32, 44, 9, 10, 13] c) == blank c) (by decide +kernel) c
  exact eq_of_beq this
theorem isL_mem (c : UInt8) : isL c = [77, 76, 72, 86, 90, 109, 108, 104, 118, 122].contains c := by
  have := all_u8 (p := fun c => isL c == [77, 76, 72, 86, 90, 109, 108, 104, 118, 122].contains c) (by decide +kernel) c
  exact eq_of_beq this

/-! ## What stands next -/
def nb (s : List UInt8) (a : Nat) : Nat := match s[a]? with
  | some c => if sgn c = true then a + 1 else a
  | none => a
def nv (s : List UInt8) (a : Nat) : Int :=
  let m : Nat := (Lib.decFrom 0 ((s.drop (nb s a)).takeWhile dig)).getD 0
  match s[a]? with
  | some c => if (c.toNat : Int) == 45 then -(m : Int) else (m : Int)
  | none => 0
/-- What stands next: its kind, its place, the place behind it, the number. -/
def tk (s : List UInt8) (i : Nat) : Nat × Nat × Nat × Int :=
  let a := sk blank s i
  match s[a]? with
  | none => (0, a, a, 0)
  | some c => if isL c = true then (1, a, a + 1, 0) else
    let b := nb s a
    let e := sk dig s b
    if e = b ∨ b + 7 < e then (3, a, a, 0) else (2, a, e, nv s a)

theorem look_l0 (p : T_trace_reader) (i : Nat) (hi : i ≤ p.s.length) (hs : p.s.length ≤ 1048576) : iter (F_trace_reader_look_l0 p) FUEL (i : Int) = some ((sk blank p.s i : Nat) : Int) := by
  refine scan_loop blank p.s (fun rec i h => ?_) (fun rec => ?_) FUEL (p.s.length - i) i (by omega) (by unfold FUEL; omega)
  · unfold F_trace_reader_look_l0
    simp only [letJ]
    rw [decide_eq_true (by omega), cond_true, idx_some h, Option.bind_some]
    unfold L_IndexByte
    rw [nat_u8, Option.bind_some, blank_ix, w64 (by omega) (by omega)]
    rfl
  · unfold F_trace_reader_look_l0
    simp only [letJ]
    rw [decide_eq_false (by omega), cond_false, cond_false]
theorem look_l1 (p : T_trace_reader) (i : Nat) (hi : i ≤ p.s.length) (hs : p.s.length ≤ 1048576) : iter (F_trace_reader_look_l1 p) FUEL (i : Int) = some ((sk dig p.s i : Nat) : Int) := by
  refine scan_loop dig p.s (fun rec i h => ?_) (fun rec => ?_) FUEL (p.s.length - i) i (by omega) (by unfold FUEL; omega)
  · unfold F_trace_reader_look_l1
    simp only [letJ]
    rw [decide_eq_true (by omega), cond_true, idx_some h, Option.bind_some, w64 (by omega) (by omega)]
    unfold dig
    cases decide ((48 : Int) ≤ (p.s[i].toNat : Int)) with
    | true => rw [cond_true, Option.bind_some, Bool.true_and]; rfl
    | false => rw [cond_false, cond_false, Bool.false_and]; rfl
  · unfold F_trace_reader_look_l1
    simp only [letJ]
    rw [decide_eq_false (by omega), cond_false, cond_false, cond_false]
theorem mark_l0 (s : List UInt8) (i : Nat) (hi : i ≤ s.length) (hs : s.length ≤ 1048576) : iter (F_lecternref10_mark_l0 s) FUEL (i : Int) = some ((sk blank s i : Nat) : Int) := by
  refine scan_loop blank s (fun rec i h => ?_) (fun rec => ?_) FUEL (s.length - i) i (by omega) (by unfold FUEL; omega)
  · unfold F_lecternref10_mark_l0
    simp only [letJ]
    rw [decide_eq_true (by omega), cond_true]
    simp only [idx_some h, Option.bind_some]
    rw [w64 (by omega) (by omega)]
    unfold blank
    generalize ((s[i].toNat : Int) == 32) = b1
    generalize ((s[i].toNat : Int) == 44) = b2
    generalize ((s[i].toNat : Int) == 9) = b3
    generalize ((s[i].toNat : Int) == 10) = b4
    generalize ((s[i].toNat : Int) == 13) = b5
    cases b1 <;> cases b2 <;> cases b3 <;> cases b4 <;> cases b5 <;> rfl
  · unfold F_lecternref10_mark_l0
    simp only [letJ]
    rw [decide_eq_false (by omega), cond_false, cond_false]
theorem nb_le (s : List UInt8) (a : Nat) (h : a < s.length) : a ≤ nb s a ∧ nb s a ≤ a + 1 ∧ nb s a ≤ s.length := by
  unfold nb
  rw [List.getElem?_eq_getElem h]
  dsimp only
  split <;> omega

theorem look_eq (p : T_trace_reader) (i : Nat) (hp : p.at_ = (i : Int)) (hi : i ≤ p.s.length) (hs : p.s.length ≤ 1048576) :
    F_trace_reader_look p = some (((tk p.s i).1 : Int), ((tk p.s i).2.1 : Int), ((tk p.s i).2.2.1 : Int)) := by
  unfold F_trace_reader_look
  simp only [letJ]
  rw [hp, look_l0 p i hi hs, Option.bind_some]
  obtain ⟨h1, h2⟩ := sk_le blank p.s i hi
  unfold tk
  dsimp only
  generalize sk blank p.s i = a at *
  by_cases ha : a = p.s.length
  · subst ha
    rw [List.getElem?_eq_none (Nat.le_refl _)]
    simp
  · have ha' : a < p.s.length := by omega
    have hne : ((a : Int) == (p.s.length : Int)) = false := by simp; omega
    rw [hne, cond_false, List.getElem?_eq_getElem ha']
    simp only [idx_some ha', Option.bind_some]
    unfold L_IndexByte
    rw [nat_u8, Option.bind_some]
    obtain ⟨n1, n2, n3⟩ := nb_le p.s a ha'
    have hnb : nb p.s a = if sgn p.s[a] = true then a + 1 else a := by unfold nb; rw [List.getElem?_eq_getElem ha']
    have hL : decide ((0 : Int) ≤ Lib.indexByte [77, 109, 76, 108, 72, 104, 86, 118, 90, 122] p.s[a]) = isL p.s[a] := rfl
    rw [hL]
    cases isL p.s[a] with
    | true => rw [cond_true, if_pos rfl, w64 (by omega) (by omega)]; rfl
    | false =>
      rw [cond_false, if_neg (by simp)]
      have key : ∀ b : Nat, b = nb p.s a → ((iter (F_trace_reader_look_l1 p) FUEL (b : Int)).bind fun o => cond ((o == (b : Int)) || (decide ((IntKind.wrap .i64 ((b : Int) + (7 : Int))) < o))) (some ((3 : Int), (a : Int), (a : Int))) (some ((2 : Int), (a : Int), o)))
          = some ((((if sk dig p.s (nb p.s a) = nb p.s a ∨ nb p.s a + 7 < sk dig p.s (nb p.s a) then (3, a, a, 0) else (2, a, sk dig p.s (nb p.s a), nv p.s a) : Nat × Nat × Nat × Int)).1 : Int), (((if sk dig p.s (nb p.s a) = nb p.s a ∨ nb p.s a + 7 < sk dig p.s (nb p.s a) then (3, a, a, 0) else (2, a, sk dig p.s (nb p.s a), nv p.s a) : Nat × Nat × Nat × Int)).2.1 : Int), (((if sk dig p.s (nb p.s a) = nb p.s a ∨ nb p.s a + 7 < sk dig p.s (nb p.s a) then (3, a, a, 0) else (2, a, sk dig p.s (nb p.s a), nv p.s a) : Nat × Nat × Nat × Int)).2.2.1 : Int)) := by
        intro b hb
        subst hb
        rw [look_l1 p _ n3 hs, Option.bind_some]
        obtain ⟨g1, g2⟩ := sk_le dig p.s (nb p.s a) n3
        generalize sk dig p.s (nb p.s a) = e at *
        generalize nb p.s a = b at *
        rw [w64 (by omega) (by omega)]
        by_cases hc : e = b ∨ b + 7 < e
        · have hb2 : (((e : Int) == (b : Int)) || decide ((b : Int) + 7 < (e : Int))) = true := by simp; omega
          rw [hb2, cond_true, if_pos hc]; rfl
        · have hb2 : (((e : Int) == (b : Int)) || decide ((b : Int) + 7 < (e : Int))) = false := by simp; omega
          rw [hb2, cond_false, if_neg hc]; rfl
      have hsg : sgn p.s[a] = (((p.s[a].toNat : Int) == 45) || ((p.s[a].toNat : Int) == 43)) := rfl
      rw [← key _ rfl, hnb, hsg]
      rw [w64 (by omega) (by omega)]
      cases ((p.s[a].toNat : Int) == 45) with
      | true => rw [cond_true, cond_true, Bool.true_or, if_pos rfl]; rfl
      | false =>
        rw [cond_false, Bool.false_or]
        cases ((p.s[a].toNat : Int) == 43) with
        | true => rw [cond_true, if_pos rfl]; rfl
        | false => rw [cond_false, if_neg (by simp)]

/-! ## The reference's digits -/
theorem dv_dig (c : UInt8) (h : dig c = true) : Lib.digitVal c = some (c.toNat - 48) ∧ 48 ≤ c.toNat ∧ c.toNat ≤ 57 := by
  unfold dig at h
  simp only [Bool.and_eq_true, decide_eq_true_eq] at h
  have h1 : 48 ≤ c.toNat ∧ c.toNat ≤ 57 := by omega
  refine ⟨?_, h1.1, h1.2⟩
  unfold Lib.digitVal
  rw [if_pos h1]
theorem u8_sub (c : UInt8) (h1 : 48 ≤ c.toNat) (h2 : c.toNat ≤ 57) : IntKind.wrap .i64 (IntKind.wrap .u8 ((c.toNat : Int) - 48)) = ((c.toNat - 48 : Nat) : Int) := by
  have e : ∀ z : Int, IntKind.wrap .u8 z = z % 256 := fun z => by simp [IntKind.wrap, IntKind.bits, IntKind.signed]
  rw [e, w64 (by omega) (by omega)]; omega
theorem tw_get (P : UInt8 → Bool) : ∀ (l : List UInt8) (k : Nat) (h : k < (l.takeWhile P).length), ∃ h2 : k < l.length, l[k] = (l.takeWhile P)[k] ∧ P l[k] = true
  | [], k, h => by simp at h
  | c :: l, k, h => by
    rw [List.takeWhile_cons] at h
    cases hP : P c with
    | false => rw [if_neg (by simp [hP])] at h; simp at h
    | true =>
      rw [if_pos hP] at h
      cases k with
      | zero => exact ⟨by simp, by simp [List.takeWhile_cons, hP], by simpa using hP⟩
      | succ k =>
        obtain ⟨h2, h3, h4⟩ := tw_get P l k (by simpa using h)
        exact ⟨by simpa using h2, by simpa [List.takeWhile_cons, hP] using h3, by simpa using h4⟩
theorem mark_l2 (s : List UInt8) (i : Nat) (hi : i ≤ s.length) (hs : s.length ≤ 1048576) : ∃ (v : Nat), iter (F_lecternref10_mark_l2 s) FUEL ((i : Int), (0 : Int), (0 : Int)) = some (((sk dig s i : Nat) : Int), (v : Int), ((min ((s.drop i).takeWhile dig).length 8 : Nat) : Int))
    ∧ Lib.decFrom 0 (((s.drop i).takeWhile dig).take 8) = some v := by
  generalize hds : (s.drop i).takeWhile dig = ds
  have hsk : sk dig s i = i + ds.length := by unfold sk; rw [hds]
  have hle := (sk_le dig s i hi).2
  obtain ⟨o, h1, v, rfl, h2⟩ := iter_spec (b := F_lecternref10_mark_l2 s)
    (fun k x => ∃ v : Nat, x = (((i + k : Nat) : Int), (v : Int), ((min k 8 : Nat) : Int)) ∧ Lib.decFrom 0 (ds.take (min k 8)) = some v)
    (fun o => ∃ v : Nat, o = (((i + ds.length : Nat) : Int), (v : Int), ((min ds.length 8 : Nat) : Int)) ∧ Lib.decFrom 0 (ds.take 8) = some v) ds.length (x0 := ((i : Int), (0 : Int), (0 : Int))) ⟨0, rfl, rfl⟩
    (fun k x rec hk ⟨v, hx, hv⟩ => by
      left
      subst hx
      obtain ⟨g1, g2, g3⟩ := tw_get dig (s.drop i) k (by rw [hds]; exact hk)
      have hik : i + k < s.length := by omega
      have e1 : s[i + k] = ds[k] := by rw [List.getElem_drop] at g2; rw [g2]; simp only [hds]
      rw [List.getElem_drop, e1] at g3
      obtain ⟨d1, d2, d3⟩ := dv_dig _ g3
      have hvb := Lib.decFrom_lt _ 0 v hv
      have hpow : (0 + 1) * 10 ^ (ds.take (min k 8)).length ≤ 100000000 := by
        rw [Nat.zero_add, Nat.one_mul]
        have : (10 : Nat) ^ (ds.take (min k 8)).length ≤ 10 ^ 8 := Nat.pow_le_pow_right (by decide) (by rw [List.length_take]; omega)
        simpa using this
      unfold F_lecternref10_mark_l2
      simp only [letJ]
      have hx := idx_some hik
      simp only [hx, Option.bind_some, e1]
      rw [decide_eq_true (p := (((i + k : Nat) : Int) < (s.length : Int))) (by omega), cond_true, decide_eq_true (p := ((48 : Int) ≤ (ds[k].toNat : Int))) (by omega), cond_true, decide_eq_true (p := ((ds[k].toNat : Int) ≤ 57)) (by omega), cond_true]
      rw [w64 (x := ((i + k : Nat) : Int) + 1) (by omega) (by omega), u8_sub _ d2 d3]
      by_cases h8 : k < 8
      · rw [decide_eq_true (by omega), cond_true]
        have hm : min k 8 = k := by omega
        have hm1 : min (k + 1) 8 = k + 1 := by omega
        rw [hm] at hv
        rw [w64 (x := 10 * (v : Int)) (by omega) (by omega), w64 (by omega) (by omega), w64 (by omega) (by omega)]
        refine ⟨_, rfl, v * 10 + (ds[k].toNat - 48), ?_, ?_⟩
        · rw [hm, hm1]
          refine Prod.ext (by simp <;> omega) (Prod.ext (by simp <;> omega) (by simp))
        · rw [hm1]; exact Lib.decFrom_take ds k 0 v _ _ hv (List.getElem?_eq_getElem hk) d1
      · rw [decide_eq_false (by omega), cond_false]
        have hm : min k 8 = 8 := by omega
        have hm1 : min (k + 1) 8 = 8 := by omega
        rw [hm] at hv
        exact ⟨_, rfl, v, by rw [hm, hm1]; refine Prod.ext (by simp <;> omega) rfl, by rw [hm1]; exact hv⟩)
    (fun x rec ⟨v, hx, hv⟩ => by
      subst hx
      have hv' : Lib.decFrom 0 (ds.take 8) = some v := by
        by_cases h8 : ds.length ≤ 8
        · rw [show min ds.length 8 = ds.length by omega, List.take_length] at hv
          rw [List.take_of_length_le h8]; exact hv
        · rw [show min ds.length 8 = 8 by omega] at hv; exact hv
      refine ⟨_, ?_, v, rfl, hv'⟩
      unfold F_lecternref10_mark_l2
      simp only [letJ]
      by_cases hend : i + ds.length < s.length
      · have hst := sk_stop (P := dig) (s := s) (s.length - i) i (by omega) (by rw [hsk]; exact hend)
        simp only [hsk] at hst
        have hx := idx_some hend
        simp only [hx, Option.bind_some]
        rw [decide_eq_true (by omega), cond_true]
        unfold dig at hst
        cases h48 : decide ((48 : Int) ≤ (s[i + ds.length].toNat : Int)) with
        | false => rw [cond_false, cond_false]
        | true =>
          rw [h48, Bool.true_and] at hst
          rw [cond_true, hst, cond_false]
      · rw [decide_eq_false (by omega), cond_false, cond_false, cond_false]) (n := FUEL) (by unfold FUEL; omega)
  exact ⟨v, by rw [hsk]; exact h1, h2⟩
theorem iter_succ {σ ρ : Type} (b : (σ → Option ρ) → σ → Option ρ) (n : Nat) (x : σ) : iter b (n + 1) x = b (iter b n) x := rfl
theorem mark_l1 (s : List UInt8) (a : Nat) (ha : a < s.length) (hs : s.length ≤ 1048576) :
    iter (F_lecternref10_mark_l1 s (a : Int)) FUEL (0 : Int) = some (if isL s[a] = true then .inr ((1 : Int), (a : Int), ((a + 1 : Nat) : Int), (0 : Int)) else .inl ()) := by
  obtain ⟨m, hm⟩ : ∃ m, FUEL = m + 1 + 1 + 1 + 1 + 1 + 1 + 1 + 1 + 1 + 1 + 1 := ⟨FUEL - 11, by unfold FUEL; rfl⟩
  rw [isL_mem, hm]
  have w : IntKind.wrap .i64 ((a : Int) + 1) = ((a + 1 : Nat) : Int) := by rw [w64 (by omega) (by omega)]; rfl
  have st : ∀ (rec : Int → Option (Unit ⊕ (Int × Int × Int × Int))) (k : Nat) (hk : k < 10), F_lecternref10_mark_l1 s (a : Int) rec (k : Int) = if s[a] = ([77, 76, 72, 86, 90, 109, 108, 104, 118, 122] : List UInt8)[k] then some (.inr ((1 : Int), (a : Int), ((a + 1 : Nat) : Int), (0 : Int))) else rec ((k + 1 : Nat) : Int) := by
    intro rec k hk
    unfold F_lecternref10_mark_l1
    rw [decide_eq_true (by omega), cond_true, idx_some ha, Option.bind_some, idx_some (by simpa using hk), Option.bind_some, w, w64 (x := (k : Int) + 1) (by omega) (by omega)]
    generalize ([77, 76, 72, 86, 90, 109, 108, 104, 118, 122] : List UInt8)[k] = d
    by_cases h : s[a] = d
    · have : ((s[a].toNat : Int) == (d.toNat : Int)) = true := by rw [h]; simp
      rw [this, cond_true, if_pos h]
    · have : ((s[a].toNat : Int) == (d.toNat : Int)) = false := by
        simp only [beq_eq_false_iff_ne]
        intro h2
        exact h (UInt8.toNat_inj.1 (by omega))
      rw [this, cond_false, if_neg h]; rfl
  have fin : ∀ rec : Int → Option (Unit ⊕ (Int × Int × Int × Int)), F_lecternref10_mark_l1 s (a : Int) rec ((10 : Nat) : Int) = some (.inl ()) := by
    intro rec
    unfold F_lecternref10_mark_l1
    rw [decide_eq_false (by decide), cond_false]
  rw [iter_succ]
  refine (st _ 0 (by decide)).trans ?_
  rw [iter_succ, st _ 1 (by decide)]
  rw [iter_succ, st _ 2 (by decide)]
  rw [iter_succ, st _ 3 (by decide)]
  rw [iter_succ, st _ 4 (by decide)]
  rw [iter_succ, st _ 5 (by decide)]
  rw [iter_succ, st _ 6 (by decide)]
  rw [iter_succ, st _ 7 (by decide)]
  rw [iter_succ, st _ 8 (by decide)]
  rw [iter_succ, st _ 9 (by decide)]
  rw [iter_succ, fin]
  simp only [List.contains_cons, List.contains_nil, Bool.or_false, Bool.or_eq_true, beq_iff_eq, List.getElem_cons_zero, List.getElem_cons_succ]
  generalize s[a] = c
  split
  · rename_i h; rw [if_pos (Or.inl h)]
  rename_i n1; split
  · rename_i h; rw [if_pos (by simp [h])]
  rename_i n2; split
  · rename_i h; rw [if_pos (by simp [h])]
  rename_i n3; split
  · rename_i h; rw [if_pos (by simp [h])]
  rename_i n4; split
  · rename_i h; rw [if_pos (by simp [h])]
  rename_i n5; split
  · rename_i h; rw [if_pos (by simp [h])]
  rename_i n6; split
  · rename_i h; rw [if_pos (by simp [h])]
  rename_i n7; split
  · rename_i h; rw [if_pos (by simp [h])]
  rename_i n8; split
  · rename_i h; rw [if_pos (by simp [h])]
  rename_i n9; split
  · rename_i h; rw [if_pos (by simp [h])]
  rename_i n10
  rw [if_neg (by simp only [n1, n2, n3, n4, n5, n6, n7, n8, n9, n10, or_self, not_false_eq_true])]
theorem mark_eq (s : List UInt8) (i : Nat) (hi : i ≤ s.length) (hs : s.length ≤ 1048576) :
    F_lecternref10_mark s (i : Int) = some (((tk s i).1 : Int), ((tk s i).2.1 : Int), ((tk s i).2.2.1 : Int), (tk s i).2.2.2) := by
  unfold F_lecternref10_mark
  simp only [letJ]
  rw [mark_l0 s i hi hs, Option.bind_some]
  obtain ⟨h1, h2⟩ := sk_le blank s i hi
  unfold tk
  dsimp only
  generalize sk blank s i = a at *
  by_cases ha : a = s.length
  · subst ha
    rw [List.getElem?_eq_none (Nat.le_refl _)]
    simp
  · have ha' : a < s.length := by omega
    have hne : ((a : Int) == (s.length : Int)) = false := by simp; omega
    rw [hne, cond_false, List.getElem?_eq_getElem ha', mark_l1 s a ha' hs, Option.bind_some]
    dsimp only
    obtain ⟨n1, n2, n3⟩ := nb_le s a ha'
    have hnb : nb s a = if sgn s[a] = true then a + 1 else a := by unfold nb; rw [List.getElem?_eq_getElem ha']
    cases isL s[a] with
    | true => rw [if_pos rfl, if_pos rfl]; rfl
    | false =>
      simp only [Bool.false_eq_true, if_false]
      simp only [idx_some ha', Option.bind_some]
      have key : ∀ b : Nat, b = nb s a → ((iter (F_lecternref10_mark_l2 s) FUEL ((b : Int), (0 : Int), (0 : Int))).bind fun o => cond ((o.2.2 == (0 : Int)) || (decide ((7 : Int) < o.2.2))) (some ((3 : Int), (a : Int), (a : Int), (0 : Int))) (cond ((s[a].toNat : Int) == (45 : Int)) (some ((2 : Int), (a : Int), o.1, (IntKind.wrap .i64 (0 - o.2.1)))) (some ((2 : Int), (a : Int), o.1, o.2.1))))
          = some ((((if sk dig s (nb s a) = nb s a ∨ nb s a + 7 < sk dig s (nb s a) then (3, a, a, 0) else (2, a, sk dig s (nb s a), nv s a) : Nat × Nat × Nat × Int)).1 : Int), (((if sk dig s (nb s a) = nb s a ∨ nb s a + 7 < sk dig s (nb s a) then (3, a, a, 0) else (2, a, sk dig s (nb s a), nv s a) : Nat × Nat × Nat × Int)).2.1 : Int), (((if sk dig s (nb s a) = nb s a ∨ nb s a + 7 < sk dig s (nb s a) then (3, a, a, 0) else (2, a, sk dig s (nb s a), nv s a) : Nat × Nat × Nat × Int)).2.2.1 : Int), ((if sk dig s (nb s a) = nb s a ∨ nb s a + 7 < sk dig s (nb s a) then (3, a, a, 0) else (2, a, sk dig s (nb s a), nv s a) : Nat × Nat × Nat × Int)).2.2.2) := by
        intro b hb
        have hnv : nv s a = if ((s[a].toNat : Int) == 45) = true then -(((Lib.decFrom 0 ((s.drop b).takeWhile dig)).getD 0 : Nat) : Int) else (((Lib.decFrom 0 ((s.drop b).takeWhile dig)).getD 0 : Nat) : Int) := by
          unfold nv; rw [List.getElem?_eq_getElem ha', hb]
        subst hb
        obtain ⟨v, e1, e2⟩ := mark_l2 s _ n3 hs
        rw [e1, Option.bind_some]
        have hsk : sk dig s (nb s a) = nb s a + ((s.drop (nb s a)).takeWhile dig).length := rfl
        generalize (s.drop (nb s a)).takeWhile dig = ds at *
        generalize sk dig s (nb s a) = e at *
        generalize nb s a = b at *
        by_cases hc : e = b ∨ b + 7 < e
        · have hb2 : ((((min ds.length 8 : Nat) : Int) == (0 : Int)) || decide ((7 : Int) < ((min ds.length 8 : Nat) : Int))) = true := by
            have : min ds.length 8 = 0 ∨ 7 < min ds.length 8 := by omega
            rw [Bool.or_eq_true, beq_iff_eq, decide_eq_true_eq]; omega
          dsimp only
          rw [hb2, cond_true, if_pos hc]; rfl
        · have hb2 : ((((min ds.length 8 : Nat) : Int) == (0 : Int)) || decide ((7 : Int) < ((min ds.length 8 : Nat) : Int))) = false := by
            have : min ds.length 8 ≠ 0 ∧ ¬ 7 < min ds.length 8 := by omega
            rw [Bool.or_eq_false_iff, beq_eq_false_iff_ne, decide_eq_false_iff_not]; omega
          dsimp only
          rw [hb2, cond_false, if_neg hc]
          rw [List.take_of_length_le (by omega)] at e2
          have hvb := Lib.decFrom_lt _ 0 v e2
          have hpow : (10 : Nat) ^ ds.length ≤ 10 ^ 7 := Nat.pow_le_pow_right (by decide) (by omega)
          rw [e2, Option.getD_some] at hnv
          rw [w64 (by omega) (by omega), hnv]
          cases ((s[a].toNat : Int) == 45) with
          | true => rw [cond_true, if_pos rfl, Int.zero_sub]; rfl
          | false => rw [cond_false, if_neg (by simp)]; rfl
      have hsg : sgn s[a] = (((s[a].toNat : Int) == 45) || ((s[a].toNat : Int) == 43)) := rfl
      rw [← key _ rfl, hnb, hsg]
      rw [w64 (x := (a : Int) + 1) (by omega) (by omega)]
      cases h45 : ((s[a].toNat : Int) == 45) with
      | true => rw [cond_true, cond_true, Bool.true_or, if_pos rfl]; rfl
      | false =>
        rw [cond_false, Bool.false_or]
        cases ((s[a].toNat : Int) == 43) with
        | true => rw [cond_true, if_pos rfl]; rfl
        | false => rw [cond_false, if_neg (by simp)]

/-! ## Tokens -/
theorem tk_spec (s : List UInt8) (i : Nat) (hi : i ≤ s.length) : i ≤ (tk s i).2.1 ∧ (tk s i).2.1 ≤ (tk s i).2.2.1 ∧ (tk s i).2.2.1 ≤ s.length ∧
    ((tk s i).1 = 1 → (tk s i).2.1 < s.length ∧ (tk s i).2.2.1 = (tk s i).2.1 + 1) ∧
    ((tk s i).1 = 2 → (tk s i).2.1 < (tk s i).2.2.1 ∧ (tk s i).2.2.2.natAbs ≤ 10000000) := by
  obtain ⟨h1, h2⟩ := sk_le blank s i hi
  unfold tk
  dsimp only
  generalize sk blank s i = a at *
  by_cases ha : a < s.length
  · rw [List.getElem?_eq_getElem ha]
    obtain ⟨n1, n2, n3⟩ := nb_le s a ha
    obtain ⟨g1, g2⟩ := sk_le dig s (nb s a) n3
    dsimp only
    split
    · dsimp only; refine ⟨by omega, by omega, by omega, fun _ => ⟨ha, rfl⟩, fun h => by omega⟩
    · split
      · dsimp only; exact ⟨by omega, by omega, by omega, fun h => by omega, fun h => by omega⟩
      · rename_i hc
        dsimp only
        refine ⟨by omega, by omega, by omega, fun h => by omega, fun _ => ⟨by omega, ?_⟩⟩
        unfold nv
        rw [List.getElem?_eq_getElem ha]
        dsimp only
        have hsk : sk dig s (nb s a) = nb s a + ((s.drop (nb s a)).takeWhile dig).length := rfl
        have key : (Lib.decFrom 0 ((s.drop (nb s a)).takeWhile dig)).getD 0 ≤ 10000000 := by
          cases hd : Lib.decFrom 0 ((s.drop (nb s a)).takeWhile dig) with
          | none => simp
          | some v =>
            have hvb := Lib.decFrom_lt _ 0 v hd
            have hpow : (10 : Nat) ^ ((s.drop (nb s a)).takeWhile dig).length ≤ 10 ^ 7 := Nat.pow_le_pow_right (by decide) (by omega)
            rw [Option.getD_some]; omega
        generalize (Lib.decFrom 0 ((s.drop (nb s a)).takeWhile dig)).getD 0 = m at *
        split <;> omega
  · have : a = s.length := by omega
    subst this
    rw [List.getElem?_eq_none (Nat.le_refl _)]
    dsimp only
    exact ⟨by omega, by omega, by omega, fun h => by omega, fun h => by omega⟩
theorem tw_take (P : UInt8 → Bool) (l : List UInt8) : l.take (l.takeWhile P).length = l.takeWhile P :=
  (List.prefix_iff_eq_take.1 (List.takeWhile_prefix P)).symm
/-- A number's value, as Atoi has it. -/
theorem atoi_tk (s : List UInt8) (i : Nat) (hi : i ≤ s.length) (hs : s.length ≤ 1048576) (h2 : (tk s i).1 = 2) :
    ∃ l, slc s ((tk s i).2.1 : Int) ((tk s i).2.2.1 : Int) = some l ∧ ∃ e, L_Atoi l = some ((tk s i).2.2.2, e) := by
  obtain ⟨t1, t2, t3, _, t5⟩ := tk_spec s i hi
  have t5' := t5 h2
  refine ⟨(s.drop (tk s i).2.1).take ((tk s i).2.2.1 - (tk s i).2.1), ?_, ?_⟩
  · unfold slc
    rw [if_pos ⟨by omega, by omega, by omega⟩, Int.toNat_natCast, Int.toNat_natCast]
  · obtain ⟨g1, g2⟩ := sk_le blank s i hi
    unfold tk at h2 ⊢
    dsimp only at h2 ⊢
    generalize sk blank s i = a at *
    by_cases ha : a < s.length
    · rw [List.getElem?_eq_getElem ha] at h2 ⊢
      obtain ⟨n1, n2, n3⟩ := nb_le s a ha
      have hnb : nb s a = if sgn s[a] = true then a + 1 else a := by unfold nb; rw [List.getElem?_eq_getElem ha]
      obtain ⟨v, _, hv⟩ := mark_l2 s _ n3 hs
      have hsk : sk dig s (nb s a) = nb s a + ((s.drop (nb s a)).takeWhile dig).length := rfl
      have hnv : nv s a = if ((s[a].toNat : Int) == 45) = true then -(((Lib.decFrom 0 ((s.drop (nb s a)).takeWhile dig)).getD 0 : Nat) : Int) else (((Lib.decFrom 0 ((s.drop (nb s a)).takeWhile dig)).getD 0 : Nat) : Int) := by
        unfold nv; rw [List.getElem?_eq_getElem ha]
      dsimp only at h2 ⊢
      split at h2
      · dsimp only at h2; omega
      rename_i hl
      rw [if_neg hl]
      split at h2
      · dsimp only at h2; omega
      rename_i hc
      rw [if_neg hc]
      dsimp only
      have hdrop := List.drop_eq_getElem_cons ha
      have htt := tw_take dig (s.drop (nb s a))
      have hat : Lib.atoi ((s.drop a).take (sk dig s (nb s a) - a)) = some (nv s a) := by
        cases hg : sgn s[a] with
        | true =>
          rw [if_pos hg] at hnb
          rw [hnv]
          rw [hnb] at hsk hc htt hv ⊢
          rw [hsk, hdrop, show a + 1 + ((s.drop (a + 1)).takeWhile dig).length - a = ((s.drop (a + 1)).takeWhile dig).length + 1 by omega, List.take_succ_cons, htt]
          generalize hds : (s.drop (a + 1)).takeWhile dig = ds at *
          rw [List.take_of_length_le (by omega)] at hv
          have hne : ds ≠ [] := by intro h; rw [h] at hsk; simp at hsk; omega
          have hdn : Lib.decNat ds = some v := by
            unfold Lib.decNat
            rw [if_neg (by simpa using hne), hv]
          rw [hv, Option.getD_some]
          unfold Lib.atoi
          unfold sgn at hg
          by_cases h45 : s[a].toNat = 45
          · have e : s[a] = 45 := UInt8.toNat_inj.1 h45
            rw [e]
            show Option.map (fun m : Nat => -(m : Int)) (Lib.decNat ds) = _
            rw [hdn]; rfl
          · have h43 : s[a].toNat = 43 := by
              simp only [Bool.or_eq_true, beq_iff_eq] at hg; omega
            have e : s[a] = 43 := UInt8.toNat_inj.1 h43
            rw [e]
            show Option.map (fun m : Nat => (m : Int)) (Lib.decNat ds) = _
            rw [hdn]; rfl
        | false =>
          rw [if_neg (by simp [hg])] at hnb
          rw [hnv]
          rw [hnb] at hsk hc htt hv ⊢
          rw [hsk, show a + ((s.drop a).takeWhile dig).length - a = ((s.drop a).takeWhile dig).length by omega, htt]
          generalize hds : (s.drop a).takeWhile dig = ds at *
          rw [List.take_of_length_le (by omega)] at hv
          have hne : ds ≠ [] := by intro h; rw [h] at hsk; simp at hsk; omega
          rw [hv, Option.getD_some]
          have hc0 : ∃ r, ds = s[a] :: r := by
            rw [hdrop, List.takeWhile_cons] at hds
            split at hds
            · exact ⟨_, hds.symm⟩
            · exact absurd hds.symm hne
          obtain ⟨r, hr⟩ := hc0
          have hdn : Lib.decNat ds = some v := by
            unfold Lib.decNat
            rw [if_neg (by simpa using hne), hv]
          rw [hr] at hdn ⊢
          unfold sgn at hg
          simp only [Bool.or_eq_false_iff, beq_eq_false_iff_ne] at hg
          unfold Lib.atoi
          have b45 : (s[a] == 45) = false := by
            rw [beq_eq_false_iff_ne]; intro h; rw [h] at hg; exact hg.1 rfl
          have b43 : (s[a] == 43) = false := by
            rw [beq_eq_false_iff_ne]; intro h; rw [h] at hg; exact hg.2 rfl
          simp only [b45, b43, Bool.false_eq_true, if_false, hdn, Option.map_some]
          rw [if_neg (by simp; omega)]
      have hlen : ((s.drop a).take (sk dig s (nb s a) - a)).length ≤ 18 := by rw [List.length_take]; omega
      refine ⟨false, ?_⟩
      unfold L_Atoi
      rw [if_pos (by omega)]
      unfold atoiP
      rw [Lib.atoiAll_short _ hlen, hat]
      rfl
    · have : a = s.length := by omega
      subst this
      rw [List.getElem?_eq_none (Nat.le_refl _)] at h2
      simp at h2
theorem number_eq (p : T_trace_reader) (i : Nat) (hp : p.at_ = (i : Int)) (hi : i ≤ p.s.length) (hs : p.s.length ≤ 1048576) :
    F_trace_reader_number p = some (if (tk p.s i).1 = 2 then ((i2f (tk p.s i).2.2.2, ((tk p.s i).2.1 : Int), true), ⟨p.s, ((tk p.s i).2.2.1 : Int), p.f, p.pen, p.n, p.open_⟩) else ((0, ((tk p.s i).2.1 : Int), false), p)) := by
  unfold F_trace_reader_number
  rw [look_eq p i hp hi hs, Option.bind_some]
  by_cases h2 : (tk p.s i).1 = 2
  · obtain ⟨l, e1, e, e2⟩ := atoi_tk p.s i hi hs h2
    have hb : (((tk p.s i).1 : Int) != 2) = false := by rw [h2]; rfl
    dsimp only
    rw [hb, cond_false, e1, Option.bind_some, e2, Option.bind_some, if_pos h2]
  · have hb : (((tk p.s i).1 : Int) != 2) = true := by simp; omega
    dsimp only
    rw [hb, cond_true, if_neg h2]

/-! ## Spots -/
def zA (C : Int) (P : Int × Int) (x : Int) : Option (Int × Int) :=
  if C = 72 then some (x, P.2) else if C = 86 then some (P.1, x) else if C = 118 then some (P.1, P.2 + x) else if C = 104 then some (P.1 + x, P.2) else none
def zB (C : Int) (P : Int × Int) (x y : Int) : Int × Int := if C = 109 ∨ C = 108 then (x + P.1, y + P.2) else (x, y)
/-- 0: none; 1: half; 2: a spot. Its place, the place behind, the spot. -/
def spA (s : List UInt8) (i : Nat) (C : Int) (P : Int × Int) : Nat × Nat × Nat × (Int × Int) :=
  if (tk s i).1 = 2 then
    match zA C P (tk s i).2.2.2 with
    | some z => (2, (tk s i).2.1, (tk s i).2.2.1, z)
    | none => if (tk s (tk s i).2.2.1).1 = 2 then (2, (tk s (tk s i).2.2.1).2.1, (tk s (tk s i).2.2.1).2.2.1, zB C P (tk s i).2.2.2 (tk s (tk s i).2.2.1).2.2.2)
        else (1, (tk s (tk s i).2.2.1).2.1, (tk s i).2.2.1, P)
  else (0, (tk s i).2.1, i, P)
def Lil (P : Int × Int) : Prop := P.1.natAbs ≤ 20000000 ∧ P.2.natAbs ≤ 20000000
theorem spA_spec (s : List UInt8) (i : Nat) (C : Int) (P : Int × Int) (hi : i ≤ s.length) (hP : InB P) :
    (spA s i C P).1 ≤ 2 ∧ (spA s i C P).2.1 ≤ s.length ∧ ((spA s i C P).1 = 2 → i < (spA s i C P).2.2.1 ∧ (spA s i C P).2.2.1 ≤ s.length ∧ Lil (spA s i C P).2.2.2) := by
  obtain ⟨t1, t2, t3, _, t5⟩ := tk_spec s i hi
  obtain ⟨u1, u2, u3, _, u5⟩ := tk_spec s (tk s i).2.2.1 t3
  obtain ⟨p1, p2, p3, p4⟩ := hP
  unfold spA
  by_cases h : (tk s i).1 = 2
  · have t6 := t5 h
    rw [if_pos h]
    cases hz : zA C P (tk s i).2.2.2 with
    | some z =>
      dsimp only
      refine ⟨by omega, by omega, fun _ => ⟨by omega, by omega, ?_⟩⟩
      unfold zA at hz
      unfold Lil
      split at hz
      · injection hz with hz; subst hz; dsimp only; omega
      split at hz
      · injection hz with hz; subst hz; dsimp only; omega
      split at hz
      · injection hz with hz; subst hz; dsimp only; omega
      split at hz
      · injection hz with hz; subst hz; dsimp only; omega
      · simp at hz
    | none =>
      dsimp only
      by_cases g : (tk s (tk s i).2.2.1).1 = 2
      · have u6 := u5 g
        rw [if_pos g]
        dsimp only
        refine ⟨by omega, by omega, fun _ => ⟨by omega, by omega, ?_⟩⟩
        unfold zB Lil
        split <;> dsimp only <;> omega
      · rw [if_neg g]; dsimp only; exact ⟨by omega, by omega, fun h => by omega⟩
  · rw [if_neg h]; dsimp only; exact ⟨by omega, by omega, fun h => by omega⟩

theorem sp_i2f (x y : Int) (h1 : x.natAbs ≤ 10000000) (h2 : y.natAbs ≤ 10000000) : Sp (i2f x, i2f y) (x, y) := ⟨i2f_I x (by omega), i2f_I y (by omega)⟩
theorem tk_small {s : List UInt8} {i : Nat} (hi : i ≤ s.length) (h : (tk s i).1 = 2) : (tk s i).2.2.2.natAbs ≤ 10000000 := ((tk_spec s i hi).2.2.2.2 h).2
/-- The program's spot. -/
theorem spot_eq (p : T_trace_reader) (C : Int) (i : Nat) (hp : p.at_ = (i : Int)) (hi : i ≤ p.s.length) (hs : p.s.length ≤ 1048576) {P : Int × Int} (hP : Sp p.pen P) (hb : InB P) :
    ((spA p.s i C P).1 = 0 ∧ F_trace_reader_spot p C = some (((0, 0), ((spA p.s i C P).2.1 : Int), false), p)) ∨
    ((spA p.s i C P).1 = 1 ∧ ∃ r, F_trace_reader_spot p C = some (((0, 0), (-1 : Int) - ((spA p.s i C P).2.1 : Int), false), r)) ∨
    ((spA p.s i C P).1 = 2 ∧ ∃ z, Sp z (spA p.s i C P).2.2.2 ∧ F_trace_reader_spot p C = some ((z, ((spA p.s i C P).2.1 : Int), true), ⟨p.s, ((spA p.s i C P).2.2.1 : Int), p.f, p.pen, p.n, p.open_⟩)) := by
  obtain ⟨t1, t2, t3, _, t5⟩ := tk_spec p.s i hi
  obtain ⟨u1, u2, u3, _, u5⟩ := tk_spec p.s (tk p.s i).2.2.1 t3
  obtain ⟨p1, p2, p3, p4⟩ := hb
  unfold F_trace_reader_spot
  rw [number_eq p i hp hi hs, Option.bind_some]
  unfold spA
  by_cases h : (tk p.s i).1 = 2
  · simp only [if_pos h]
    have t6 := (t5 h).2
    have hx := i2f_I (tk p.s i).2.2.2 (by omega)
    rw [show (!true) = false from rfl, cond_false]
    by_cases c1 : C = 72
    · have e : zA C P (tk p.s i).2.2.2 = some ((tk p.s i).2.2.2, P.2) := by unfold zA; rw [if_pos c1]
      rw [e, show (C == 72) = true by simp [c1], cond_true]
      exact .inr (.inr ⟨rfl, (i2f (tk p.s i).2.2.2, p.pen.2), ⟨hx, hP.2⟩, rfl⟩)
    rw [show (C == 72) = false by simp [c1], cond_false]
    by_cases c2 : C = 86
    · have e : zA C P (tk p.s i).2.2.2 = some (P.1, (tk p.s i).2.2.2) := by unfold zA; rw [if_neg c1, if_pos c2]
      rw [e, show (C == 86) = true by simp [c2], cond_true]
      exact .inr (.inr ⟨rfl, (p.pen.1, i2f (tk p.s i).2.2.2), ⟨hP.1, hx⟩, rfl⟩)
    rw [show (C == 86) = false by simp [c2], cond_false]
    by_cases c3 : C = 118
    · have e : zA C P (tk p.s i).2.2.2 = some (P.1, P.2 + (tk p.s i).2.2.2) := by unfold zA; rw [if_neg c1, if_neg c2, if_pos c3]
      rw [e, show (C == 118) = true by simp [c3], cond_true]
      obtain ⟨r, e1, e2⟩ := cadd_I (z := p.pen) (w := (0, i2f (tk p.s i).2.2.2)) (p := P) (q := (0, (tk p.s i).2.2.2)) hP ⟨zero_I, hx⟩ (by dsimp only; omega) (by dsimp only; omega)
      rw [e1, Option.bind_some]
      refine .inr (.inr ⟨rfl, r, ?_, rfl⟩)
      simpa using e2
    rw [show (C == 118) = false by simp [c3], cond_false]
    by_cases c4 : C = 104
    · have e : zA C P (tk p.s i).2.2.2 = some (P.1 + (tk p.s i).2.2.2, P.2) := by unfold zA; rw [if_neg c1, if_neg c2, if_neg c3, if_pos c4]
      rw [e, show (C == 104) = true by simp [c4], cond_true]
      obtain ⟨r, e1, e2⟩ := cadd_I (z := p.pen) (w := (i2f (tk p.s i).2.2.2, 0)) (p := P) (q := ((tk p.s i).2.2.2, 0)) hP ⟨hx, zero_I⟩ (by dsimp only; omega) (by dsimp only; omega)
      rw [e1, Option.bind_some]
      refine .inr (.inr ⟨rfl, r, ?_, rfl⟩)
      simpa using e2
    rw [show (C == 104) = false by simp [c4], cond_false]
    have e : zA C P (tk p.s i).2.2.2 = none := by unfold zA; rw [if_neg c1, if_neg c2, if_neg c3, if_neg c4]
    rw [e]
    have hn := number_eq ⟨p.s, ((tk p.s i).2.2.1 : Int), p.f, p.pen, p.n, p.open_⟩ (tk p.s i).2.2.1 rfl t3 hs
    dsimp only at hn ⊢
    rw [hn, Option.bind_some]
    by_cases g : (tk p.s (tk p.s i).2.2.1).1 = 2
    · simp only [if_pos g]
      have u6 := (u5 g).2
      have hy := i2f_I (tk p.s (tk p.s i).2.2.1).2.2.2 (by omega)
      rw [show (!true) = false from rfl, cond_false]
      obtain ⟨r, e1, e2⟩ := cadd_I (z := (i2f (tk p.s i).2.2.2, 0)) (w := (0, i2f (tk p.s (tk p.s i).2.2.1).2.2.2)) (p := ((tk p.s i).2.2.2, 0)) (q := (0, (tk p.s (tk p.s i).2.2.1).2.2.2)) ⟨hx, zero_I⟩ ⟨zero_I, hy⟩ (by dsimp only; omega) (by dsimp only; omega)
      have e2' : Sp r ((tk p.s i).2.2.2, (tk p.s (tk p.s i).2.2.1).2.2.2) := by simpa using e2
      rw [e1, Option.bind_some]
      simp only [letJ]
      by_cases c5 : C = 109 ∨ C = 108
      · rw [show ((C == 109) || (C == 108)) = true by simp [c5], cond_true]
        obtain ⟨r2, e3, e4⟩ := cadd_I (z := r) (w := p.pen) e2' hP (by dsimp only; omega) (by dsimp only; omega)
        rw [e3, Option.bind_some]
        refine .inr (.inr ⟨trivial, r2, ?_, rfl⟩)
        unfold zB; rw [if_pos c5]; exact e4
      · rw [show ((C == 109) || (C == 108)) = false by simp; omega, cond_false]
        refine .inr (.inr ⟨trivial, r, ?_, rfl⟩)
        unfold zB; rw [if_neg c5]; exact e2'
    · simp only [if_neg g]
      rw [show (!false) = true from rfl, cond_true]
      refine .inr (.inl ⟨trivial, ⟨p.s, ((tk p.s i).2.2.1 : Int), p.f, p.pen, p.n, p.open_⟩, ?_⟩)
      rw [w64 (by omega) (by omega)]
  · simp only [if_neg h]
    rw [show (!false) = true from rfl, cond_true]
    exact .inl ⟨trivial, rfl⟩

/-! ## Figures that grow -/
def mkW (x : List (Int × Int) × Bool) : T_lecternref10_Stroke := ⟨x.1.map fun p => ⟨p.1, p.2⟩, x.2⟩
structure StR (x : T_trace_Stroke) (y : List (Int × Int) × Bool) : Prop where
  ne : x.Spots ≠ []
  sp : SpL x.Spots y.1
  cl : x.Closed = y.2
inductive FR : List T_trace_Stroke → FgW → Prop where
  | nil : FR [] []
  | snoc {f : List T_trace_Stroke} {L : FgW} {x : T_trace_Stroke} {y : List (Int × Int) × Bool} (h : FR f L) (hx : StR x y) : FR (f ++ [x]) (L ++ [y])
theorem FR.len {f : List T_trace_Stroke} {L : FgW} (h : FR f L) : f.length = L.length := by
  induction h with
  | nil => rfl
  | snoc h hx ih => simp [ih]
theorem FR.st {f : List T_trace_Stroke} {L : FgW} (h : FR f L) : ∀ (i : Nat) (h1 : i < f.length) (h2 : i < L.length), StR f[i] L[i] := by
  induction h with
  | nil => intro i h1; simp at h1
  | @snoc f L x y h hx ih =>
    intro i h1 h2
    have hl := h.len
    rw [List.length_append, List.length_singleton] at h1 h2
    by_cases hi : i < f.length
    · rw [List.getElem_append_left hi, List.getElem_append_left (by omega)]
      exact ih i hi (by omega)
    · have : i = f.length := by omega
      subst this
      rw [List.getElem_append_right (Nat.le_refl _), List.getElem_append_right (by omega)]
      simp only [hl, Nat.sub_self, List.getElem_cons_zero]
      exact hx
theorem lens_app (f g : List T_trace_Stroke) : lens (f ++ g) = lens f + lens g := by unfold lens; rw [List.map_append, List.sum_append]
theorem lens_one (x : T_trace_Stroke) : lens [x] = x.Spots.length := by simp [lens]
theorem FR.cnt {f : List T_trace_Stroke} {L : FgW} (h : FR f L) : f.length ≤ lens f := by
  induction h with
  | nil => simp
  | @snoc f L x y h hx ih =>
    rw [lens_app, lens_one, List.length_append, List.length_singleton]
    have := List.length_pos_iff.2 hx.ne
    omega
theorem FR.figW {f : List T_trace_Stroke} {L : FgW} (h : FR f L) (hl : lens f ≤ 500) : FigW f L where
  len := h.len
  st := fun i h1 h2 => ⟨(h.st i h1 h2).ne, (h.st i h1 h2).sp, (h.st i h1 h2).cl⟩
  tot := hl
  cnt := Nat.le_trans h.cnt hl
theorem lst_app {α : Type} (m : List α) (x : α) (i : Int) (hi : i = (m.length : Int)) : lst (m ++ [x]) i = some x := by
  subst hi
  unfold lst
  rw [if_pos (by simp), idx_some (by simp)]
  simp
theorem set_app {α : Type} (m : List α) (x y : α) : (m ++ [x]).set m.length y = m ++ [y] := by simp
theorem wlen {α : Type} (m : List α) (x : α) (h : m.length ≤ 1048576) : IntKind.wrap .i64 (((m ++ [x]).length : Int) - 1) = (m.length : Int) := by
  rw [List.length_append, List.length_singleton, w64 (by omega) (by omega)]; omega

/-! ## Two loops side by side -/
theorem iter_two {σ τ ρ ψ : Type} {b : (σ → Option ρ) → σ → Option ρ} {c : (τ → Option ψ) → τ → Option ψ} (μ : σ → Nat) (I : σ → τ → Prop) (R : ρ → ψ → Prop)
    (step : ∀ x y, I x y → (∃ x' y', (∀ rec, b rec x = rec x') ∧ (∀ rec, c rec y = rec y') ∧ I x' y' ∧ μ x' < μ x) ∨ (∃ o q, (∀ rec, b rec x = some o) ∧ (∀ rec, c rec y = some q) ∧ R o q)) :
    ∀ (n m : Nat) (x : σ) (y : τ), I x y → μ x < n → μ x < m → ∃ o q, iter b n x = some o ∧ iter c m y = some q ∧ R o q
  | 0, _, x, y, _, h, _ => by omega
  | _ + 1, 0, x, y, _, _, h => by omega
  | n + 1, m + 1, x, y, hI, h1, h2 => by
    rcases step x y hI with ⟨x', y', e1, e2, hI', hm⟩ | ⟨o, q, e1, e2, hR⟩
    · obtain ⟨o, q, g1, g2, hR⟩ := iter_two μ I R step n m x' y' hI' (by omega) (by omega)
      exact ⟨o, q, by show b (iter b n) x = _; rw [e1, g1], by show c (iter c m) y = _; rw [e2, g2], hR⟩
    · exact ⟨o, q, e1 _, e2 _, hR⟩
end Go.Proofs.YtocfjohangcajaaDoor
