/- Trails read by the plain code: the steps. No condition. -/
import Derived.Test.YtggnjahdjmncaaaDoorLp8
set_option linter.unusedSimpArgs false
set_option linter.unusedVariables false
set_option maxRecDepth 20000
namespace Go.Proofs.YtggnjahdjmncaaaDoor
open Go.Lib (decDigits itoa decFrom digitVal)
/-- Where the steps' loop stands. -/
structure OI (s : List UInt8) (st : List Int) (i : Nat) : Prop where
  le : i ≤ s.length
  txt : s.take i = stepsT st
  len : st.length ≤ 64
  rng : ∀ n ∈ st, 0 ≤ n ∧ n ≤ 999999999
  pre : ∀ p, Good p → s = stepsT p.Steps ++ tailT p → st = p.Steps.take st.length
def SC (s : List UInt8) (i : Nat) : Prop := i + 1 < s.length ∧ bt s i = 47 ∧ bt s (i + 1) ≠ 64
theorem OI.suf {s : List UInt8} {st : List Int} {i : Nat} (o : OI s st i) {p : T_trail_Trail} (g : Good p) (e : s = stepsT p.Steps ++ tailT p) : s.drop i = stepsT (p.Steps.drop st.length) ++ tailT p := by
  have h1 := o.pre p g e
  have h2 : stepsT p.Steps = stepsT st ++ stepsT (p.Steps.drop st.length) := by
    rw [← stepsT_append]
    congr 1
    conv => lhs; rw [← List.take_append_drop st.length p.Steps]
    rw [← h1]
  have h3 : s = s.take i ++ s.drop i := (List.take_append_drop i s).symm
  have h4 : s.take i ++ s.drop i = stepsT st ++ (stepsT (p.Steps.drop st.length) ++ tailT p) := by
    rw [← h3, e, h2, List.append_assoc]
  rw [o.txt] at h4
  exact List.append_cancel_left h4
theorem bt_drop {s : List UInt8} {i t : Nat} {l : List UInt8} (h : s.drop i = l) : bt s (i + t) = (l.getD t 0).toNat := by
  rw [← h, getD_drop]
theorem tail_cases (p : T_trail_Trail) : (p.Attr = false ∧ tailT p = []) ∨ (p.Attr = true ∧ ∃ w, tailT p = 47 :: 64 :: w) := by
  unfold tailT
  cases p.Attr
  · exact .inl ⟨rfl, rfl⟩
  · exact .inr ⟨rfl, _, rfl⟩
theorem follow (l : List Int) (p : T_trail_Trail) : stepsT l ++ tailT p = [] ∨ ∃ w, stepsT l ++ tailT p = 47 :: w := by
  cases l with
  | nil =>
    rcases tail_cases p with ⟨_, h⟩ | ⟨_, w, h⟩
    · left; rw [h]; rfl
    · right; rw [h]; exact ⟨_, rfl⟩
  | cons n l => right; exact ⟨itoa n ++ stepsT l ++ tailT p, by simp [stepsT]⟩
/-- Where the loop goes on, a step of the shown trail follows. -/
theorem OI.next {s : List UInt8} {st : List Int} {i : Nat} (o : OI s st i) (sc : SC s i) {p : T_trail_Trail} (g : Good p) (e : s = stepsT p.Steps ++ tailT p) :
    ∃ (a : Int) (rest : List Int), p.Steps.drop st.length = a :: rest ∧ s.drop i = 47 :: (itoa a ++ (stepsT rest ++ tailT p)) := by
  have hs := o.suf g e
  cases hd : p.Steps.drop st.length with
  | nil =>
    exfalso
    rw [hd] at hs
    obtain ⟨c1, c2, c3⟩ := sc
    rcases tail_cases p with ⟨_, h⟩ | ⟨_, w, h⟩
    · rw [h] at hs
      have := congrArg List.length hs
      simp [stepsT] at this
      omega
    · rw [h] at hs
      have hs' : s.drop i = 47 :: 64 :: w := by rw [hs]; rfl
      apply c3
      rw [bt_drop hs']; rfl
  | cons a rest =>
    rw [hd] at hs
    exact ⟨a, rest, rfl, by rw [hs]; simp [stepsT]⟩
theorem step_stop {s : List UInt8} {i : Nat} (rec : _ → _) (a71 : List Int) (a72 : Bool) (a73 a74 : List UInt8) (st : List Int) (a77 : Bool) (a78 a79 : List UInt8) (hl : s.length ≤ 1048576) (hi : i ≤ s.length) (sc : ¬ SC s i) :
    F_lecternref08_Read_l0 s rec (a71, a72, a73, a74, st, a77, a78, a79, (i : Int)) = some (.inl (a71, a72, a73, a74, st, a77, a78, a79, (i : Int))) := by
  unfold F_lecternref08_Read_l0
  simp only [letJ]
  rw [w64 (x := (i : Int) + 1) (by omega) (by omega)]
  by_cases c1 : i + 1 < s.length
  · rw [decide_eq_true (show (i : Int) + 1 < (s.length : Int) by omega), cond_true, idx_bt (show i < s.length by omega), Option.bind_some]
    have e : (((s.getD i 0).toNat : Nat) : Int) = (bt s i : Int) := rfl
    rw [e]
    by_cases c2 : bt s i = 47
    · rw [show ((bt s i : Int) == (47 : Int)) = true by simp only [beq_iff_eq]; omega, cond_true, show ((i : Int) + 1) = ((i + 1 : Nat) : Int) by omega, idx_bt c1, Option.bind_some]
      have e2 : (((s.getD (i + 1) 0).toNat : Nat) : Int) = (bt s (i + 1) : Int) := rfl
      rw [e2]
      have c3 : bt s (i + 1) = 64 := Classical.byContradiction fun h => sc ⟨c1, c2, h⟩
      rw [show ((bt s (i + 1) : Int) != (64 : Int)) = false by simp only [bne_eq_false_iff_eq]; omega, cond_false]
    · rw [show ((bt s i : Int) == (47 : Int)) = false by simp only [beq_eq_false_iff_ne, ne_eq]; omega, cond_false, cond_false]
  · rw [decide_eq_false (show ¬ (i : Int) + 1 < (s.length : Int) by omega), cond_false, cond_false, cond_false]
theorem step_go {s : List UInt8} {i : Nat} (rec : _ → _) (a71 : List Int) (a72 : Bool) (a73 a74 : List UInt8) (st : List Int) (a77 : Bool) (a78 a79 : List UInt8) (hl : s.length ≤ 1048576) (sc : SC s i) {k n : Nat}
    (hin : iter (F_lecternref08_Read_l1 s (i : Int)) FUEL (((i + 1 : Nat) : Int), (0 : Int)) = some (((i + 1 + k : Nat) : Int), (n : Int))) (hk : i + 1 + k ≤ s.length) (hst : st.length ≤ 64) :
    F_lecternref08_Read_l0 s rec (a71, a72, a73, a74, st, a77, a78, a79, (i : Int)) = if k = 0 ∨ (bt s (i + 1) = 48 ∧ 1 < k) ∨ st.length = 64 then some (.inr ((⟨[], false, ⟨[], []⟩⟩ : T_trail_Trail), false)) else rec (a71, a72, a73, a74, st ++ [(n : Int)], a77, a78, a79, ((i + 1 + k : Nat) : Int)) := by
  obtain ⟨c1, c2, c3⟩ := sc
  unfold F_lecternref08_Read_l0
  simp only [letJ]
  have e : (((s.getD i 0).toNat : Nat) : Int) = (bt s i : Int) := rfl
  have e2 : (((s.getD (i + 1) 0).toNat : Nat) : Int) = (bt s (i + 1) : Int) := rfl
  rw [w64 (x := (i : Int) + 1) (by omega) (by omega), w64 (x := (i : Int) + 2) (by omega) (by omega), decide_eq_true (show (i : Int) + 1 < (s.length : Int) by omega), cond_true, idx_bt (show i < s.length by omega), Option.bind_some, e,
    show ((bt s i : Int) == (47 : Int)) = true by simp only [beq_iff_eq]; omega, cond_true, show ((i : Int) + 1) = ((i + 1 : Nat) : Int) by omega, idx_bt c1, Option.bind_some, e2,
    show ((bt s (i + 1) : Int) != (64 : Int)) = true by simp only [bne_iff_ne, ne_eq]; omega, cond_true, hin, Option.bind_some]
  simp only [Option.bind_some, e2]
  have hs64 : ((st.length : Int) == (64 : Int)) = decide (st.length = 64) := by rw [Bool.eq_iff_iff]; simp only [beq_iff_eq, decide_eq_true_eq]; omega
  rw [hs64, app_some (by simp only [List.length_singleton]; omega) (by simp only [List.length_singleton]; omega), Option.bind_some]
  by_cases k0 : k = 0
  · subst k0
    rw [if_pos (.inl rfl), show ((((i + 1 + 0 : Nat) : Int)) == ((i + 1 : Nat) : Int)) = true by simp, cond_true, Bool.true_or, cond_true]
  · rw [show ((((i + 1 + k : Nat) : Int)) == ((i + 1 : Nat) : Int)) = false by simp only [beq_eq_false_iff_ne, ne_eq]; omega, cond_false]
    by_cases k1 : bt s (i + 1) = 48 ∧ 1 < k
    · rw [if_pos (.inr (.inl k1)), show ((bt s (i + 1) : Int) == (48 : Int)) = true by simp only [beq_iff_eq]; omega, decide_eq_true (show (i : Int) + 2 < ((i + 1 + k : Nat) : Int) by omega), Bool.and_self, Bool.true_or, cond_true]
    · have : (((bt s (i + 1) : Int) == (48 : Int)) && decide ((i : Int) + 2 < ((i + 1 + k : Nat) : Int))) = false := by
        rw [Bool.eq_false_iff]; simp only [ne_eq, Bool.and_eq_true, beq_iff_eq, decide_eq_true_eq]; omega
      rw [this, Bool.false_or]
      by_cases k2 : st.length = 64
      · rw [if_pos (.inr (.inr k2)), decide_eq_true k2, cond_true]
      · rw [if_neg (by omega), decide_eq_false k2, cond_false]
theorem outer (s : List UInt8) (hl : s.length ≤ 1048576) : ∃ o, iter (F_lecternref08_Read_l0 s) FUEL (([] : List Int), false, ([] : List UInt8), ([] : List UInt8), ([] : List Int), false, ([] : List UInt8), ([] : List UInt8), (0 : Int)) = some o ∧
    ((∃ st i, o = .inl (([] : List Int), false, ([] : List UInt8), ([] : List UInt8), st, false, ([] : List UInt8), ([] : List UInt8), ((i : Nat) : Int)) ∧ OI s st i ∧ ¬ SC s i) ∨ (∃ t, o = .inr (t, false) ∧ ∀ p, Good p → s ≠ stepsT p.Steps ++ tailT p)) :=
  iter_spec (b := F_lecternref08_Read_l0 s) (fun j x => ∃ st i, x = (([] : List Int), false, ([] : List UInt8), ([] : List UInt8), st, false, ([] : List UInt8), ([] : List UInt8), ((i : Nat) : Int)) ∧ OI s st i ∧ st.length = j)
    (fun o => (∃ st i, o = .inl (([] : List Int), false, ([] : List UInt8), ([] : List UInt8), st, false, ([] : List UInt8), ([] : List UInt8), ((i : Nat) : Int)) ∧ OI s st i ∧ ¬ SC s i) ∨ (∃ t, o = .inr (t, false) ∧ ∀ p, Good p → s ≠ stepsT p.Steps ++ tailT p)) 65
    ⟨[], 0, rfl, ⟨Nat.zero_le _, by simp [stepsT], by simp, by simp, fun p _ _ => by simp⟩, rfl⟩
    (fun j x rec hj ⟨st, i, hx, hO, hlen⟩ => by
      subst hx
      by_cases sc : SC s i
      · obtain ⟨k, n, hin, hk9, hkl, hd, hn, hnb, hend⟩ := inner s i sc.1 hl
        have hn9 : n ≤ 999999999 := by
          have : (10 : Nat) ^ k ≤ 10 ^ 9 := Nat.pow_le_pow_right (by omega) hk9
          have h9 : (10 : Nat) ^ 9 = 1000000000 := by decide
          omega
        have hrun : ∀ p, Good p → s = stepsT p.Steps ++ tailT p → ∃ rest, p.Steps.drop st.length = (n : Int) :: rest ∧ k = (itoa (n : Int)).length := fun p g e => by
          obtain ⟨a, rest, h1, h2⟩ := hO.next sc g e
          have ha := g.steps a (List.mem_of_mem_drop (by rw [h1]; simp))
          obtain ⟨h3, h4⟩ := run_eq s i k n a _ h2 (follow rest p) ha.1 ha.2 hk9 hkl hd hn hend
          exact ⟨rest, by rw [h1, h4], by rw [h4]; exact h3⟩
        have hb := step_go rec ([] : List Int) false [] [] st false [] [] hl sc hin hkl hO.len
        by_cases fail : k = 0 ∨ (bt s (i + 1) = 48 ∧ 1 < k) ∨ st.length = 64
        · rw [if_pos fail] at hb
          refine .inr ⟨_, hb, .inr ⟨_, rfl, fun p g e => ?_⟩⟩
          obtain ⟨rest, h1, h2⟩ := hrun p g e
          have hlen2 := congrArg List.length h1
          have h64 := g.len
          simp only [List.length_drop, List.length_cons] at hlen2
          have hne := List.length_pos_iff.2 (digits_ne n)
          rw [itoa_nat _ (by omega), Int.toNat_natCast] at h2
          rcases fail with f | f | f
          · omega
          · have h3 := digits_head _ n (Nat.lt_succ_self _) (by omega)
            obtain ⟨a, rest', h4, h5⟩ := hO.next sc g e
            rw [h1] at h4
            obtain ⟨rfl, rfl⟩ := List.cons.inj h4
            have h6 := bt_drop (t := 1) h5
            apply h3
            rw [f.1] at h6
            rw [itoa_nat _ (by omega), Int.toNat_natCast] at h6
            have h7 : ((47 : UInt8) :: (decDigits n ++ (stepsT rest ++ tailT p))).getD 1 0 = (decDigits n).getD 0 0 := by
              simp only [List.getD, List.getElem?_cons_succ]
              rw [List.getElem?_append_left hne]
            rw [h7] at h6
            exact h6.symm
          · omega
        · rw [if_neg fail] at hb
          refine .inl ⟨_, hb, st ++ [(n : Int)], i + 1 + k, rfl, ?_, by simp; omega⟩
          have hk1 : 1 ≤ k := by omega
          have hlen : ((s.drop (i + 1)).take k).length = (k - 1) + 1 := by rw [List.length_take, List.length_drop]; omega
          have hdig : ∀ c ∈ (s.drop (i + 1)).take k, 48 ≤ c.toNat ∧ c.toNat ≤ 57 := fun c hc => by
            obtain ⟨t, ht, e⟩ := List.getElem_of_mem hc
            have ht' : t < k := by rw [hlen] at ht; omega
            obtain ⟨d1, d2, d3⟩ := hd t ht'
            have e3 : c = s.getD (i + 1 + t) 0 := by
              rw [← e, List.getElem_take, List.getElem_drop]
              simp [List.getD, d1]
            rw [e3]; exact ⟨d2, d3⟩
          have hhead : 2 ≤ ((s.drop (i + 1)).take k).length → (((s.drop (i + 1)).take k).getD 0 0).toNat ≠ 48 := fun h2 => by
            have e3 : ((s.drop (i + 1)).take k).getD 0 0 = s.getD (i + 1) 0 := by
              simp only [List.getD, List.getElem?_take, List.getElem?_drop, Nat.add_zero]
              rw [if_pos (by omega)]
            rw [e3]
            intro h48
            exact fail (.inr (.inl ⟨h48, by omega⟩))
          obtain ⟨hcan, _⟩ := canon (k - 1) _ n hlen hdig hn hhead
          refine ⟨hkl, ?_, by simp; omega, fun m hm => ?_, fun p g e => ?_⟩
          · have h47 : s.getD i 0 = 47 := UInt8.toNat_inj.1 sc.2.1
            have t1 : s.take (i + 1) = s.take i ++ [47] := by
              rw [take_snoc (getD_get (show i < s.length by have := sc.1; omega)), h47]
            have t2 : s.take (i + 1 + k) = s.take (i + 1) ++ (s.drop (i + 1)).take k := by
              rw [List.take_add]
            rw [t2, t1, hO.txt, ← hcan, stepsT_append]
            simp [stepsT, itoa_nat (n : Int) (by omega)]
          · rcases List.mem_append.1 hm with h | h
            · exact hO.rng m h
            · simp only [List.mem_singleton] at h; subst h; omega
          · obtain ⟨rest, h1, h2⟩ := hrun p g e
            have h3 := hO.pre p g e
            have hg : p.Steps[st.length]? = some (n : Int) := by
              have := congrArg (fun l : List Int => l[0]?) h1
              simpa [List.getElem?_drop] using this
            rw [List.length_append, List.length_singleton, take_snoc hg, ← h3]
      · exact .inr ⟨_, step_stop rec _ _ _ _ _ _ _ _ hl hO.le sc, .inl ⟨st, i, rfl, hO, sc⟩⟩)
    (fun x rec ⟨st, i, hx, hO, hlen⟩ => by have := hO.len; omega) (by unfold FUEL; omega)
end Go.Proofs.YtggnjahdjmncaaaDoor
