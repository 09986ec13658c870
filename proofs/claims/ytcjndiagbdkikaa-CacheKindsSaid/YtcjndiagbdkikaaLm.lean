/- Plain maps: putting, finding, births. And the cache's list under its operations. No condition. -/
import Derived.Test.YtcjndiagbdkikaaEng26
import Derived.Test.YtcjndiagbdkikaaCf
import Derived.Test.YtcjndiagbdkikaaPl1
set_option linter.unusedSimpArgs false
set_option linter.unusedVariables false
namespace Go.Proofs.Ytcjndiagbdkikaa

section
variable {κ ν : Type} [DecidableEq κ]
theorem putE_old (k : κ) (v : ν) (c : Nat) : ∀ L : List (Nat × κ × ν), k ∈ L.map (·.2.1) → (putE k v c L).1.map (·.1) = L.map (·.1) ∧ (putE k v c L).1.map (·.2.1) = L.map (·.2.1) ∧ (putE k v c L).2 = c
  | [], h => by simp at h
  | x :: L, h => by
    unfold putE
    by_cases hk : k = x.2.1
    · simp [hk]
    · have hb : (k == x.2.1) = false := by simpa using hk
      have hm : k ∈ L.map (·.2.1) := by
        simp only [List.map_cons, List.mem_cons] at h
        exact h.resolve_left hk
      obtain ⟨h1, h2, h3⟩ := putE_old k v c L hm
      simp only [hb, Bool.false_eq_true, if_false, List.map_cons, h1, h2, h3, and_self]
theorem putE_new (k : κ) (v : ν) (c : Nat) : ∀ L : List (Nat × κ × ν), k ∉ L.map (·.2.1) → putE k v c L = (L ++ [(c, k, v)], c + 1)
  | [], h => rfl
  | x :: L, h => by
    unfold putE
    simp only [List.map_cons, List.mem_cons, not_or] at h
    have hb : (k == x.2.1) = false := by simpa using h.1
    simp only [hb, Bool.false_eq_true, if_false, putE_new k v c L h.2, List.cons_append]
theorem putE_find (k k' : κ) (v : ν) (c : Nat) : ∀ L : List (Nat × κ × ν), (((putE k v c L).1.find? fun x => k' == x.2.1).map fun x => x.2.2) = if k' = k then some v else (L.find? fun x => k' == x.2.1).map fun x => x.2.2
  | [] => by
    by_cases h : k' = k
    · simp [putE, h]
    · have hb : (k' == k) = false := by simpa using h
      simp [putE, h, hb]
  | x :: L => by
    have ih := putE_find k k' v c L
    unfold putE
    by_cases hk : k = x.2.1
    · subst hk
      simp only [beq_self_eq_true, if_true, List.find?_cons]
      by_cases h : k' = x.2.1
      · simp [h]
      · have hb : (k' == x.2.1) = false := by simpa using h
        simp [h, hb]
    · have hb : (k == x.2.1) = false := by simpa using hk
      simp only [hb, Bool.false_eq_true, if_false, List.find?_cons]
      by_cases h : k' = x.2.1
      · have h2 : ¬ k' = k := fun e => hk (by rw [← e, h])
        have hb2 : (k' == x.2.1) = true := by simpa using h
        simp [hb2, h2]
      · have hb2 : (k' == x.2.1) = false := by simpa using h
        simp only [hb2]; exact ih

structure PM.Wf (m : PM κ ν) : Prop where
  ok : m.Ok
  nd : (m.es.map (·.2.1)).Nodup

omit [DecidableEq κ] in
theorem pm0_wf : (pm0 : PM κ ν).Wf := ⟨⟨by simp [pm0], by simp [pm0]⟩, by simp [pm0]⟩
theorem PM.get_put (m : PM κ ν) (k k' : κ) (v : ν) : (m.put k v).get k' = if k' = k then some v else m.get k' := putE_find k k' v m.clk m.es
theorem PM.get_none {m : PM κ ν} {k : κ} : m.get k = none ↔ k ∉ m.es.map (·.2.1) := by
  simp only [PM.get, Option.map_eq_none_iff, List.find?_eq_none, List.mem_map, not_exists, not_and, beq_iff_eq]
  exact ⟨fun h x hx e => h x hx e.symm, fun h x hx e => h x hx e.symm⟩
theorem PM.Wf.put {m : PM κ ν} (H : m.Wf) (k : κ) (v : ν) : (m.put k v).Wf := by
  by_cases hk : k ∈ m.es.map (·.2.1)
  · obtain ⟨h1, h2, h3⟩ := putE_old k v m.clk m.es hk
    refine ⟨⟨fun x hx => ?_, ?_⟩, ?_⟩
    · have : x.1 ∈ m.es.map (·.1) := by rw [← h1]; exact List.mem_map.2 ⟨x, hx, rfl⟩
      obtain ⟨y, hy, e⟩ := List.mem_map.1 this
      show x.1 < (putE k v m.clk m.es).2
      rw [h3, ← e]; exact H.ok.lt y hy
    · show ((putE k v m.clk m.es).1.map (·.1)).Nodup
      rw [h1]; exact H.ok.un
    · show ((putE k v m.clk m.es).1.map (·.2.1)).Nodup
      rw [h2]; exact H.nd
  · have h := putE_new k v m.clk m.es hk
    refine ⟨⟨fun x hx => ?_, ?_⟩, ?_⟩
    · show x.1 < (putE k v m.clk m.es).2
      replace hx : x ∈ (putE k v m.clk m.es).1 := hx
      rw [h] at hx ⊢
      rcases List.mem_append.1 hx with hx | hx
      · have := H.ok.lt x hx; simp only; omega
      · simp at hx; subst hx; simp
    · show ((putE k v m.clk m.es).1.map (·.1)).Nodup
      rw [h, List.map_append]
      refine List.nodup_append.2 ⟨H.ok.un, by simp, fun a ha b hb e => ?_⟩
      obtain ⟨y, hy, rfl⟩ := List.mem_map.1 ha
      have := H.ok.lt y hy
      simp at hb; omega
    · show ((putE k v m.clk m.es).1.map (·.2.1)).Nodup
      rw [h, List.map_append]
      refine List.nodup_append.2 ⟨H.nd, by simp, fun a ha b hb e => ?_⟩
      simp at hb; subst hb; subst e; exact hk ha
theorem PM.len_put (m : PM κ ν) (k : κ) (v : ν) : (m.put k v).es.length = if m.get k = none then m.es.length + 1 else m.es.length := by
  by_cases hk : k ∈ m.es.map (·.2.1)
  · obtain ⟨h1, _⟩ := putE_old k v m.clk m.es hk
    have := congrArg List.length h1
    simp only [List.length_map] at this
    rw [if_neg (fun h => PM.get_none.1 h hk)]; exact this
  · rw [if_pos (PM.get_none.2 hk)]
    show (putE k v m.clk m.es).1.length = _
    rw [putE_new k v m.clk m.es hk]; simp
theorem PM.Wf.mem {m : PM κ ν} (H : m.Wf) {b : Nat} {k : κ} {v : ν} (hm : (b, k, v) ∈ m.es) : m.get k = some v := by
  have : ∀ L : List (Nat × κ × ν), (L.map (·.2.1)).Nodup → (b, k, v) ∈ L → ((L.find? fun x => k == x.2.1).map fun x => x.2.2) = some v := by
    intro L
    induction L with
    | nil => intro _ h; simp at h
    | cons y L ih =>
      intro hn h
      simp only [List.map_cons, List.nodup_cons] at hn
      rcases List.mem_cons.1 h with h | h
      · subst h; simp
      · have : k ≠ y.2.1 := fun e => hn.1 (by rw [← e]; exact List.mem_map.2 ⟨_, h, rfl⟩)
        have hb : (k == y.2.1) = false := by simpa using this
        rw [List.find?_cons, hb]; exact ih hn.2 h
  exact this _ H.nd hm
omit [DecidableEq κ] in
theorem allM_some {f : κ → ν → Option Unit} {m : PM κ ν} (H : m.Ok) (hf : ∀ b k v, (b, k, v) ∈ m.es → f k v = some ()) : allM f m = some () := by
  unfold allM
  rw [if_pos ⟨H, List.all_eq_true.2 fun x hx => by rw [hf x.1 x.2.1 x.2.2 hx]; rfl⟩]
end

/-! ## The cache's list -/
theorem fnd_iff {k : Int} {e : I.Ent} : ∀ {L : List I.Ent}, (L.map I.Ent.key).Nodup → (I.fnd k L = some e ↔ e ∈ L ∧ e.key = k)
  | [], _ => by simp [I.fnd]
  | x :: L, nd => by
    simp only [List.map_cons, List.nodup_cons] at nd
    have ih := fnd_iff (k := k) (e := e) nd.2
    simp only [I.fnd, List.find?_cons] at ih ⊢
    by_cases h : x.key = k
    · have hb : (x.key == k) = true := by simpa using h
      rw [hb]
      simp only [Option.some.injEq, List.mem_cons]
      refine ⟨fun he => ⟨.inl he.symm, by rw [← he]; exact h⟩, fun ⟨h1, h2⟩ => ?_⟩
      rcases h1 with h1 | h1
      · exact h1.symm
      · exact absurd (show x.key ∈ L.map I.Ent.key from List.mem_map.2 ⟨e, h1, by rw [h2, h]⟩) nd.1
    · have hb : (x.key == k) = false := by simpa using h
      rw [hb]
      simp only [List.mem_cons]
      rw [ih]
      exact ⟨fun ⟨h1, h2⟩ => ⟨.inr h1, h2⟩, fun ⟨h1, h2⟩ => ⟨h1.resolve_left (fun e2 => h (by rw [← e2]; exact h2)), h2⟩⟩
theorem fnd_no {k : Int} {L : List I.Ent} : I.fnd k L = none ↔ k ∉ L.map I.Ent.key := by
  simp only [I.fnd, List.find?_eq_none, List.mem_map, not_exists, not_and, beq_iff_eq]
theorem fnd_split {k : Int} {L : List I.Ent} {e : I.Ent} (h : I.fnd k L = some e) : ∃ l1 l2, L = l1 ++ e :: l2 ∧ e.key = k ∧ ∀ x ∈ l1, x.key ≠ k := by
  obtain ⟨h1, l1, l2, h2, h3⟩ := List.find?_eq_some_iff_append.1 h
  exact ⟨l1, l2, h2, by simpa using h1, fun x hx => by simpa using h3 x hx⟩
theorem rem_mid {k : Int} {l1 l2 : List I.Ent} {e : I.Ent} (he : e.key = k) (h1 : ∀ x ∈ l1, x.key ≠ k) : I.rem k (l1 ++ e :: l2) = l1 ++ l2 := by
  rw [I.rem, List.eraseP_append_right _ (fun x hx => by simpa using h1 x hx), List.eraseP_cons_of_pos (by simpa using he)]
theorem usd_perm (k : Int) (L : List I.Ent) : (I.usd k L).Perm L := by
  unfold I.usd
  cases hf : I.fnd k L with
  | none => exact .refl _
  | some e =>
    obtain ⟨l1, l2, rfl, he, h1⟩ := fnd_split hf
    simp only [rem_mid he h1]
    exact (List.perm_append_comm (l₁ := l1 ++ l2) (l₂ := [e])).trans (List.perm_middle (l₁ := l1) (l₂ := l2) (a := e)).symm
theorem fnd_perm {k : Int} {L L' : List I.Ent} (hp : L'.Perm L) (nd : (L.map I.Ent.key).Nodup) : I.fnd k L' = I.fnd k L := by
  have nd' : (L'.map I.Ent.key).Nodup := ((hp.map _).nodup_iff).2 nd
  cases hf : I.fnd k L with
  | none => rw [fnd_no] at hf ⊢; rw [(hp.map _).mem_iff]; exact hf
  | some e => rw [fnd_iff nd] at hf; rw [fnd_iff nd', hp.mem_iff]; exact hf
end Go.Proofs.Ytcjndiagbdkikaa
