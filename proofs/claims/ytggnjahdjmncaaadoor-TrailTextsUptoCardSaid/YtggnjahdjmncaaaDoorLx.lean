/- TrailTexts: the plain law. No condition. -/
import Derived.Test.YtggnjahdjmncaaaDoorLr8
set_option linter.unusedSimpArgs false
set_option linter.unusedVariables false
set_option maxRecDepth 20000
namespace Go.Proofs.YtggnjahdjmncaaaDoor
theorem trailTexts (p : T_trail_Trail) (s : List UInt8) (hl : p.Steps.length ≤ 1048576) (hu : p.Name.URI.length ≤ 1048576) (hs : s.length ≤ 1048576) : F_lecternlaw08_TrailTexts p s = some true := by
  unfold F_lecternlaw08_TrailTexts F_lecternlaw08_doc
  simp only [awake_t, Option.bind_some, Bool.not_true, cond_false, letJ]
  obtain ⟨b, hb, hg, hsh⟩ := F_show p (by omega) (by omega)
  obtain ⟨r, hr, hr2, hr3⟩ := F_read s hs
  obtain ⟨q, hq, hq2, hq3⟩ := F_read8 s hs
  obtain ⟨k1, k2⟩ := cand_sizes s
  have hlast : (cond (!q.2) (cond (r.2 == (35 : Int)) ((F_lecternref08_Same r.1 (⟨([] : List Int), false, (⟨([] : List UInt8), ([] : List UInt8)⟩ : T_api_Name)⟩ : T_trail_Trail)).bind fun x31 => some x31) (some false))
      (cond (r.2 == (0 : Int)) ((F_lecternref08_Same r.1 q.1).bind fun x43 => some x43) (some false))) = some true := by
    cases hq0 : q.2
    · have : r = (emptyT, 35) := by
        rcases hr2 with h | ⟨h, h1, h2, h3⟩
        · exact h
        · have := hq3 (candP s) h2 h1 h3
          rw [this] at hq0; cases hq0
      subst this
      have := F_same emptyT (by simp [emptyT])
      simp only [Bool.not_false, cond_true, beq_self_eq_true]
      rw [show (⟨([] : List Int), false, (⟨([] : List UInt8), ([] : List UInt8)⟩ : T_api_Name)⟩ : T_trail_Trail) = emptyT from rfl, this]; rfl
    · obtain ⟨h1, h2, h3⟩ := hq2 hq0
      obtain ⟨bb, hbb, hgg, _⟩ := F_show q.1 (by omega) (by
        have := h2
        have h5 : q.1 = candP s ∨ True := .inr trivial
        exact Classical.byContradiction fun hn => by
          have hno : s.length ≤ 1048576 := hs
          rw [← h2] at hno
          unfold showP tailT at hno
          by_cases hA : q.1.Attr = true
          · simp only [hA, if_true] at hno
            have hU : q.1.Name.URI ≠ [] := by intro e; rw [e] at hn; simp at hn
            rw [if_neg hU, if_neg (by simp)] at hno
            simp only [List.length_append, List.length_cons, List.length_nil] at hno
            omega
          · have hf : q.1.Attr = false := by simpa using hA
            unfold F_trail_right at h1
            simp only [letJ] at h1
            rw [decide_eq_false (show ¬ (64 : Int) < (q.1.Steps.length : Int) by omega), cond_false, contains_some _ (by omega), Option.bind_some] at h1
            cases hany : q.1.Steps.any badS
            · rw [hany, cond_false, hf, Bool.not_false, cond_true] at h1
              have := Option.some.inj h1
              simp only [Bool.and_true, Bool.and_eq_true, beq_iff_eq] at this
              rw [this.1] at hn
              simp at hn
            · rw [hany] at h1; cases h1)
      rw [h1] at hbb
      have g := hgg (Option.some.inj hbb).symm
      have hc : candP s = q.1 := by rw [← h2]; exact cand_show q.1 g
      rw [hc] at hr3
      have := hr3 h1 h2
      subst this
      simp only [Bool.not_true, cond_false, beq_self_eq_true, cond_true, F_same q.1 (by omega), Option.bind_some]
  rw [hsh, Option.bind_some, hr, Option.bind_some, F_right8 p (by omega) (by omega), hb, Option.bind_some]
  cases b
  · simp only [Bool.false_eq_true, if_false, hq, Option.bind_some]
    exact hlast
  · have g := hg rfl
    simp only [if_true, F_show8 p g, hq, Option.bind_some, beq_self_eq_true, bne_self_eq_false, Bool.not_true, Bool.false_and, Bool.or_self, cond_false, cond_true]
    exact hlast
end Go.Proofs.YtggnjahdjmncaaaDoor
