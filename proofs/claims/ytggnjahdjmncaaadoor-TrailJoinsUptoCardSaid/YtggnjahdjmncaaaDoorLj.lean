/- TrailJoins: the plain law. No condition. -/
import Derived.Test.YtggnjahdjmncaaaDoorLv
set_option linter.unusedSimpArgs false
set_option linter.unusedVariables false
set_option maxRecDepth 20000
namespace Go.Proofs.YtggnjahdjmncaaaDoor
theorem trailJoins (p : T_api_Node) (l : List Int) (h : szN p ≤ 1048576) (hl : l.length ≤ 1048576) : F_lecternlaw08_TrailJoins p l = some true := by
  unfold F_lecternlaw08_TrailJoins
  simp only [awake_t, Option.bind_some, Bool.not_true, cond_false]
  rw [F_at5 p _ (by omega), Option.bind_some]
  cases ha : atP p l with
  | none => rfl
  | some y =>
    simp only [Bool.not_true, Bool.false_or]
    cases hk : ((y.Kind != (1 : Int)) && (y.Kind != (2 : Int)))
    case true => rfl
    simp only [cond_false, letJ]
    have hk12 : y.Kind = 1 ∨ y.Kind = 2 := by
      by_cases e1 : y.Kind = 1
      · exact .inl e1
      · by_cases e2 : y.Kind = 2
        · exact .inr e2
        · simp [e1, e2] at hk
    have hy := atP_sz _ _ _ ha
    have hyk := kids_len y
    have hv : valueP p (⟨l, false, ⟨[], []⟩⟩ : T_trail_Trail) = (textsP y, 0) := by
      unfold valueP
      simp only [ha, Bool.false_eq_true, if_false]
      rcases hk12 with e | e <;> simp [e]
    rw [F_value p _ h (by simp only; omega), Option.bind_some, hv]
    have htl := textsP_len y
    have hyz := szN_kids y
    obtain ⟨o, h1, h2⟩ := iter_spec (b := F_lecternlaw08_TrailJoins_l0 p l (y, true)) (fun i x => x = (textsL (y.Kids.take i), (i : Int))) (fun o => o = .inl (textsL y.Kids) ∨ o = .inr true) y.Kids.length (x0 := (([] : List UInt8), (0 : Int))) (by simp [textsL])
      (fun i x rec hi hx => by
        subst hx
        have hm := List.getElem_mem hi
        have hz := szN_kid hm
        have hat : atP p (l ++ [(i : Int)]) = some y.Kids[i] := by rw [atP_snoc, ha, Option.bind_some, List.getElem?_eq_getElem hi]
        have hl1 := textsL_take_len y.Kids (i + 1)
        have htt := textsP_eq y
        rw [htt] at htl
        have hva : valueP p (⟨l ++ [(i : Int)], false, ⟨[], []⟩⟩ : T_trail_Trail) = (if ((y.Kids[i].Kind == (3 : Int)) || (y.Kids[i].Kind == (4 : Int))) || (y.Kids[i].Kind == (5 : Int)) then (y.Kids[i].Text, 0) else (textsP y.Kids[i], 0)) := by
          unfold valueP
          simp only [hat, Bool.false_eq_true, if_false]
        have hempty : y.Kids[i].Kids.length = 0 → textsP y.Kids[i] = [] := fun e => by rw [textsP_eq, List.eq_nil_of_length_eq_zero e, textsL]
        have hlen2 : (textsL (y.Kids.take (i + 1))).length ≤ 1048576 := by omega
        rw [textsL_take hi] at hlen2
        simp only [List.length_append] at hlen2
        have hb : ∀ rec, F_lecternlaw08_TrailJoins_l0 p l (y, true) rec (textsL (y.Kids.take i), (i : Int)) =
            (letJ (fun a51 : List UInt8 => cond ((y.Kids[i].Kind == (1 : Int)) || ((((decide (y.Kids[i].Kind < (1 : Int))) || (decide ((5 : Int) < y.Kids[i].Kind))) || (y.Kids[i].Kind != (2 : Int))) && (decide ((0 : Int) < (y.Kids[i].Kids.length : Int)))))
              (some (.inr true)) (rec (a51, ((i + 1 : Nat) : Int)))) fun J52 =>
            cond ((y.Kids[i].Kind == (3 : Int)) || (y.Kids[i].Kind == (2 : Int))) ((cat (textsL (y.Kids.take i)) (valueP p (⟨l ++ [(i : Int)], false, ⟨[], []⟩⟩ : T_trail_Trail)).1).bind fun _ => J52 (textsL (y.Kids.take i) ++ (valueP p (⟨l ++ [(i : Int)], false, ⟨[], []⟩⟩ : T_trail_Trail)).1)) (J52 (textsL (y.Kids.take i)))) := fun rec => by
          unfold F_lecternlaw08_TrailJoins_l0
          simp only
          rw [decide_eq_true (by omega), cond_true, idx_some hi, Option.bind_some, app_some (by simp only [List.length_nil]; omega) (by simp only [List.length_nil]; omega), Option.bind_some,
            app_some (by simp only [List.length_append, List.length_nil, List.length_singleton]; omega) (by simp only [List.length_append, List.length_nil, List.length_singleton]; omega), Option.bind_some]
          simp only [List.nil_append]
          rw [F_value p _ h (by simp only [List.length_append, List.length_singleton]; omega), Option.bind_some]
          have hz2 : (valueP p (⟨l ++ [(i : Int)], false, ⟨[], []⟩⟩ : T_trail_Trail)).2 = 0 := by rw [hva]; split <;> rfl
          rw [hz2, bne_self_eq_false, cond_false, w64 (by omega) (by omega)]; rfl
        rw [hb, hva]
        simp only [letJ]
        by_cases e3 : y.Kids[i].Kind = 3
        · have hg : gT y.Kids[i] = y.Kids[i].Text := by unfold gT; rw [if_pos e3]
          have ht := text_len y.Kids[i]
          rw [hg] at hlen2
          simp only [e3, beq_self_eq_true, Bool.true_or, cond_true, if_true]
          rw [cat_some (by omega), Option.bind_some]
          by_cases e0 : y.Kids[i].Kids.length = 0
          · refine .inl ⟨_, by rw [e0]; rfl, ?_⟩
            rw [textsL_take hi, hempty e0, hg, List.append_nil]
          · refine .inr ⟨.inr true, ?_, .inr rfl⟩
            have : decide ((0 : Int) < (y.Kids[i].Kids.length : Int)) = true := decide_eq_true (by omega)
            rw [this]; rfl
        · have hg : gT y.Kids[i] = [] := by unfold gT; rw [if_neg e3]
          rw [hg] at hlen2
          by_cases e2 : y.Kids[i].Kind = 2
          · simp only [e2]
            refine .inl ⟨(textsL (y.Kids.take i) ++ textsP y.Kids[i], ((i + 1 : Nat) : Int)), ?_, ?_⟩
            · show ((cat (textsL (y.Kids.take i)) (textsP y.Kids[i])).bind fun _ => rec (textsL (y.Kids.take i) ++ textsP y.Kids[i], ((i + 1 : Nat) : Int))) = _
              rw [cat_some (by simp only [List.length_nil] at hlen2; omega), Option.bind_some]
            · rw [textsL_take hi, hg, List.nil_append]
          · have f3 : (y.Kids[i].Kind == (3 : Int)) = false := by simpa using e3
            have f2 : (y.Kids[i].Kind == (2 : Int)) = false := by simpa using e2
            have n2 : (y.Kids[i].Kind != (2 : Int)) = true := by simpa using e2
            simp only [f3, f2, n2, Bool.or_false, Bool.or_true, Bool.true_and, cond_false]
            by_cases e1 : y.Kids[i].Kind = 1
            · refine .inr ⟨.inr true, ?_, .inr rfl⟩
              rw [show (y.Kids[i].Kind == (1 : Int)) = true by simpa using e1]; rfl
            · rw [show (y.Kids[i].Kind == (1 : Int)) = false by simpa using e1]
              by_cases e0 : y.Kids[i].Kids.length = 0
              · refine .inl ⟨_, by rw [e0]; rfl, ?_⟩
                rw [textsL_take hi, hempty e0, hg, List.append_nil, List.append_nil]
              · refine .inr ⟨.inr true, ?_, .inr rfl⟩
                have : decide ((0 : Int) < (y.Kids[i].Kids.length : Int)) = true := decide_eq_true (by omega)
                rw [this]; rfl)
      (fun x rec hx => ⟨_, by
        subst hx
        unfold F_lecternlaw08_TrailJoins_l0
        simp only
        rw [decide_eq_false (by omega), cond_false], .inl (by rw [List.take_length])⟩) (n := FUEL) (by unfold FUEL; omega)
    rw [h1, Option.bind_some]
    rcases h2 with rfl | rfl
    · simp only [textsP_eq, beq_self_eq_true, Bool.and_true]
    · rfl
end Go.Proofs.YtggnjahdjmncaaaDoor
