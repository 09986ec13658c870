/- Room, and the lists of keys. No condition. -/
import Derived.Test.YtcjndiagbdkikaaCa6
import Derived.Test.YtcjndiagbdkikaaEng15
set_option linter.unusedSimpArgs false
set_option linter.unusedVariables false
namespace Go.Proofs.Ytcjndiagbdkikaa.I

theorem Chain_at {pv nx : Nat → Nat} : ∀ {l : List Nat} {a b : Nat}, Chain pv nx a l b → nx a = l.getD 0 b ∧ ∀ k, k < l.length → nx (l.getD k b) = l.getD (k + 1) b
  | [], a, b, h => ⟨h.1, fun k hk => by simp at hk⟩
  | x :: l, a, b, h => by
    have ih := Chain_at h.2.2
    refine ⟨h.1, fun k hk => ?_⟩
    cases k with
    | zero => simpa using ih.1
    | succ k => simpa using ih.2 k (by simpa using hk)

theorem CaL.frame {h h' : Heap} {c : Nat} {F : List Nat} {n : Int} {L : List Ent} (H : CaL h c F n L) (hf : ∀ i ∈ F, h i ≠ none → h' i = h i) : CaL h' c F n L := by
  obtain ⟨m, r, ids, en, H, rfl, rfl⟩ := H
  obtain ⟨mes, clock, pr, hm, h1, h2⟩ := H.mp
  obtain ⟨pv, nx, R⟩ := H.rg
  refine ⟨m, r, ids, en, ⟨?_, ⟨mes, clock, pr, ?_, h1, h2⟩, ⟨pv, nx, fun y hy => ?_, R.ch, R.un⟩, H.ky⟩, rfl, rfl⟩
  · rw [hf c (by simp) (by simp [H.hc])]; exact H.hc
  · rw [hf m (by simp) (by simp [hm])]; exact hm
  · have := R.nd y hy
    rw [hf y (by simp only [List.mem_cons] at hy ⊢; exact .inr (.inr hy)) (by simp [this])]; exact this

theorem node_at {h : Heap} {r : Nat} {ids : List Nat} {en : Nat → Ent} {pv nx : Nat → Nat} (R : Rg h r ids en pv nx) (k : Nat) : h (ids.getD k r) = some (.cells (nodeC (en (ids.getD k r)) (pv (ids.getD k r)) (nx (ids.getD k r)))) := by
  apply R.nd
  by_cases hk : k < ids.length
  · simp [List.getD, hk]
  · simp [List.getD, hk]

theorem node_ne {h : Heap} {r : Nat} {ids : List Nat} {en : Nat → Ent} {pv nx : Nat → Nat} (R : Rg h r ids en pv nx) {k : Nat} (hk : k < ids.length) : ids.getD k r ≠ r := by
  intro e
  apply (List.nodup_cons.1 R.un).1
  rw [← e]; simp [List.getD, hk]

theorem node_end {r : Nat} {ids : List Nat} {k : Nat} (hk : ¬ k < ids.length) : ids.getD k r = r := by
  simp [List.getD, Nat.not_lt.1 hk]

/-- May go. -/
def free (e : Ent) : Bool := !e.dirty && decide (e.pins = 0)

theorem lk_mem {ids : List Nat} {en : Nat → Ent} (hk : (ids.map fun i => (en i).key).Nodup) {i : Nat} (hi : i ∈ ids) : lk (en i).key ids en = some i := by
  cases hl : lk (en i).key ids en with
  | none => exact absurd rfl (lk_none hl i hi)
  | some j =>
    obtain ⟨h1, h2⟩ := lk_some hl
    rw [key_inj hk h1 hi h2]

theorem free_first {ids : List Nat} {en : Nat → Ent} (hk : (ids.map fun i => (en i).key).Nodup) (hu : ids.Nodup) {k r : Nat} (hlt : k < ids.length) (hb : ∀ i ∈ ids.take k, free (en i) = false) (hp : free (en (ids.getD k r)) = true) :
    rem (en (ids.getD k r)).key (ids.map en) = (ids.map en).eraseP free ∧ dropB (en (ids.getD k r)).key (ids.map en) = true ∧ (ids.map en).any free = true := by
  have hm : ids.getD k r ∈ ids := by simp [List.getD, hlt]
  have hl := lk_mem hk hm
  have hd : ids = ids.take k ++ ids.getD k r :: ids.drop (k + 1) := by
    have h1 : ids.drop k = ids.getD k r :: ids.drop (k + 1) := by rw [List.drop_eq_getElem_cons hlt]; simp [List.getD, hlt]
    rw [← h1, List.take_append_drop]
  have hn : ids.getD k r ∉ ids.take k := by
    intro e
    have := hb _ e
    rw [hp] at this; simp at this
  refine ⟨?_, ?_, ?_⟩
  · rw [rem_map hl]
    generalize hy : ids.getD k r = y at *
    generalize ids.take k = l1 at *
    generalize ids.drop (k + 1) = l2 at *
    subst hd
    rw [List.erase_append_right _ hn, List.erase_cons_head, List.map_append, List.map_append, List.eraseP_append_right, List.map_cons, List.eraseP_cons_of_pos hp]
    intro e he
    obtain ⟨j, hj, rfl⟩ := List.mem_map.1 he
    simp [hb j hj]
  · simp only [dropB, fnd_map, hl, Option.map_some]
    simp only [free, Bool.and_eq_true, decide_eq_true_eq] at hp
    rw [hp.2]; rfl
  · rw [List.any_map, List.any_eq_true]; exact ⟨_, hm, hp⟩

theorem room_calls {h : Heap} {c : Nat} {F : List Nat} {n : Int} {L : List Ent} (H : CaL h c F n L) :
    CallsA Try.prog 38 [.ptr c 0] h fun d h' => d = .bool (L.any free) ∧ ∃ F', CaL h' c F' n (L.eraseP free) ∧ Fr h h' F F' := by
  have H0 := H
  obtain ⟨m, r, ids, en, H, rfl, rfl⟩ := H
  obtain ⟨pv, nx, R⟩ := H.rg
  have hc := H.hc
  have hr := R.nd r (by simp)
  refine CallsA_body Try.func38 rfl en_38 ?_
  simp only [Try.ntmps38, List.length_cons, List.length_nil, List.replicate]
  repeat' (first
    | with_reducible refine WP_seq ?_
    | ((first | with_reducible refine WP_skip ?_ | with_reducible refine SQ_nil ?_); (first | simp only [Exit.sel, Exit.blk] | simp only [EV2, EVB, stepH, gdOf, modeOf, effD, opD, putD, ofV, ofV1, D.cells, D.lay, D.one, condP, Exit.sel, Exit.blk, RetP, oneOf, resD, putAt, nilD, extrD, fillD, buildD, mapPutD, mapDelD, mapEntD, entPutD, newMapD, moveD, boundD, makeD, appendD, liveD, reduceCtorEq, if_true, if_false, ne_eq, ty_fd_70_2, ty_sz_66, ty_ag_66, ty_fd_68_5, ty_pt_66, ty_sz_68, ty_fd_68_2, ty_sz_4, ty_ag_4, ty_fd_68_3, ty_sz_3, ty_ag_3, ty_ki_3, ty_fd_68_0, Try.results38, hc, hr, nodeC, kC, vD]))
    | ((first | with_reducible refine WP_cond ?_ | with_reducible refine WP_ret ?_ | ((with_reducible refine SQr rfl ?_); intro rest hrest)); simp only [EV2, EVB, stepH, gdOf, modeOf, effD, opD, putD, ofV, ofV1, D.cells, D.lay, D.one, condP, Exit.sel, Exit.blk, RetP, oneOf, resD, putAt, nilD, extrD, fillD, buildD, mapPutD, mapDelD, mapEntD, entPutD, newMapD, moveD, boundD, makeD, appendD, liveD, reduceCtorEq, if_true, if_false, ne_eq, ty_fd_70_2, ty_sz_66, ty_ag_66, ty_fd_68_5, ty_pt_66, ty_sz_68, ty_fd_68_2, ty_sz_4, ty_ag_4, ty_fd_68_3, ty_sz_3, ty_ag_3, ty_ki_3, ty_fd_68_0, Try.results38, hc, hr, nodeC, kC, vD])
    | with_reducible refine WP_block ?_
    | ((with_reducible refine WP_exit ?_); simp only [Exit.sel, Exit.blk, reduceIte, eq_self, Nat.reduceEqDiff, Nat.zero_ne_one, Nat.one_ne_zero])
    | ((with_reducible refine hrest _ ?_); clear hrest rest)
    | with_reducible refine WP_reg (fun _ => none) (fun _ => 0) (gamma0 _) ?_
    | with_reducible refine WP_draw (fun _ => none) (fun _ => 0) (gamma0 _) (by kernel_rfl) (by kernel_rfl) ?_
    | ((with_reducible refine ifP (fun _ => ?_) (fun _ => ?_)) <;> try (exfalso; omega))
    | (with_reducible refine And.intro ?_ ?_)
    | ((with_reducible refine (id ?_ : (_ : Nat) ≤ _)); omega))
  refine WP_loop (LW_loop (α := Nat) (fun k => k ≤ ids.length ∧ ∀ i ∈ ids.take k, free (en i) = false) (fun k => ids.length - k) (fun k => ⟨[.ptr c 0, .any, .bool false, .ptr (ids.getD k r) 0, .any, .any, .any, .any, .any, .any, .any, .any, .any, .any, .any, .any, .any, .any, .any, .any, .any, .any, .any, .any, .any, .any, .any, .any, .any, .any, .any, .any, .any, .any, .any, .any, .any, .any, .any], h⟩) 0 ⟨Nat.zero_le _, by simp⟩ ⟨?_, fun _ => .inl rfl⟩ ?_)
  · have h0 : D.ptr (ids.getD 0 r) 0 = D.ptr (nx r) 0 := by rw [(Chain_at R.ch).1]
    rw [h0]
    (repeat (first | with_reducible exact WkL.nil | with_reducible refine WkL.any ?_ | with_reducible refine WkL.same ?_ | refine WkL.eq ?_ (intw_eq (by omega) (by omega) (by omega)) | refine WkL.eq ?_ (int_eq (by omega)) | refine WkL.eq ?_ (by first | rfl | (simp; done))))
  rintro k ⟨hk, hb⟩ ih
  have hx := node_at R k
  by_cases hlt : k < ids.length
  · have hne := node_ne R hlt
    by_cases hp : free (en (ids.getD k r)) = true
    · have hp' := hp
      simp only [free, Bool.and_eq_true, Bool.not_eq_true', decide_eq_true_eq] at hp'
      obtain ⟨hp1, hp2⟩ := hp'
      obtain ⟨g1, g2, g3⟩ := free_first (r := r) H.ky (List.nodup_cons.1 R.un).2 hlt hb hp
      repeat' (first
    | with_reducible refine WP_seq ?_
    | ((first | with_reducible refine WP_skip ?_ | with_reducible refine SQ_nil ?_); (first | simp only [Exit.sel, Exit.blk] | simp only [EV2, EVB, stepH, gdOf, modeOf, effD, opD, putD, ofV, ofV1, D.cells, D.lay, D.one, condP, Exit.sel, Exit.blk, RetP, oneOf, resD, putAt, nilD, extrD, fillD, buildD, mapPutD, mapDelD, mapEntD, entPutD, newMapD, moveD, boundD, makeD, appendD, liveD, reduceCtorEq, if_true, if_false, ne_eq, ty_fd_70_2, ty_sz_66, ty_ag_66, ty_fd_68_5, ty_pt_66, ty_sz_68, ty_fd_68_2, ty_sz_4, ty_ag_4, ty_fd_68_3, ty_sz_3, ty_ag_3, ty_ki_3, ty_fd_68_0, Try.results38, hc, hr, hx, hne, hp1, hp2, nodeC, kC, vD]))
    | ((first | with_reducible refine WP_cond ?_ | with_reducible refine WP_ret ?_ | ((with_reducible refine SQr rfl ?_); intro rest hrest)); simp only [EV2, EVB, stepH, gdOf, modeOf, effD, opD, putD, ofV, ofV1, D.cells, D.lay, D.one, condP, Exit.sel, Exit.blk, RetP, oneOf, resD, putAt, nilD, extrD, fillD, buildD, mapPutD, mapDelD, mapEntD, entPutD, newMapD, moveD, boundD, makeD, appendD, liveD, reduceCtorEq, if_true, if_false, ne_eq, ty_fd_70_2, ty_sz_66, ty_ag_66, ty_fd_68_5, ty_pt_66, ty_sz_68, ty_fd_68_2, ty_sz_4, ty_ag_4, ty_fd_68_3, ty_sz_3, ty_ag_3, ty_ki_3, ty_fd_68_0, Try.results38, hc, hr, hx, hne, hp1, hp2, nodeC, kC, vD])
    | with_reducible refine WP_block ?_
    | ((with_reducible refine WP_exit ?_); simp only [Exit.sel, Exit.blk, reduceIte, eq_self, Nat.reduceEqDiff, Nat.zero_ne_one, Nat.one_ne_zero])
    | ((with_reducible refine hrest _ ?_); clear hrest rest)
    | with_reducible refine WP_reg (fun _ => none) (fun _ => 0) (gamma0 _) ?_
    | with_reducible refine WP_draw (fun _ => none) (fun _ => 0) (gamma0 _) (by kernel_rfl) (by kernel_rfl) ?_
    | ((with_reducible refine ifP (fun _ => ?_) (fun _ => ?_)) <;> try (exfalso; omega))
    | (with_reducible refine And.intro ?_ ?_)
    | ((with_reducible refine (id ?_ : (_ : Nat) ≤ _)); omega))
      refine (drop_calls H0 (en (ids.getD k r)).key).mono fun d h' hd => ?_
      rw [g1, g2] at hd
      obtain ⟨rfl, hd⟩ := hd
      repeat' (first
    | with_reducible refine WP_seq ?_
    | ((first | with_reducible refine WP_skip ?_ | with_reducible refine SQ_nil ?_); (first | simp only [Exit.sel, Exit.blk] | simp only [EV2, EVB, stepH, gdOf, modeOf, effD, opD, putD, ofV, ofV1, D.cells, D.lay, D.one, condP, Exit.sel, Exit.blk, RetP, oneOf, resD, putAt, nilD, extrD, fillD, buildD, mapPutD, mapDelD, mapEntD, entPutD, newMapD, moveD, boundD, makeD, appendD, liveD, reduceCtorEq, if_true, if_false, ne_eq, ty_fd_70_2, ty_sz_66, ty_ag_66, ty_fd_68_5, ty_pt_66, ty_sz_68, ty_fd_68_2, ty_sz_4, ty_ag_4, ty_fd_68_3, ty_sz_3, ty_ag_3, ty_ki_3, ty_fd_68_0, Try.results38]))
    | ((first | with_reducible refine WP_cond ?_ | with_reducible refine WP_ret ?_ | ((with_reducible refine SQr rfl ?_); intro rest hrest)); simp only [EV2, EVB, stepH, gdOf, modeOf, effD, opD, putD, ofV, ofV1, D.cells, D.lay, D.one, condP, Exit.sel, Exit.blk, RetP, oneOf, resD, putAt, nilD, extrD, fillD, buildD, mapPutD, mapDelD, mapEntD, entPutD, newMapD, moveD, boundD, makeD, appendD, liveD, reduceCtorEq, if_true, if_false, ne_eq, ty_fd_70_2, ty_sz_66, ty_ag_66, ty_fd_68_5, ty_pt_66, ty_sz_68, ty_fd_68_2, ty_sz_4, ty_ag_4, ty_fd_68_3, ty_sz_3, ty_ag_3, ty_ki_3, ty_fd_68_0, Try.results38])
    | with_reducible refine WP_block ?_
    | ((with_reducible refine WP_exit ?_); simp only [Exit.sel, Exit.blk, reduceIte, eq_self, Nat.reduceEqDiff, Nat.zero_ne_one, Nat.one_ne_zero])
    | ((with_reducible refine hrest _ ?_); clear hrest rest)
    | with_reducible refine WP_reg (fun _ => none) (fun _ => 0) (gamma0 _) ?_
    | with_reducible refine WP_draw (fun _ => none) (fun _ => 0) (gamma0 _) (by kernel_rfl) (by kernel_rfl) ?_
    | ((with_reducible refine ifP (fun _ => ?_) (fun _ => ?_)) <;> try (exfalso; omega))
    | (with_reducible refine And.intro ?_ ?_)
    | ((with_reducible refine (id ?_ : (_ : Nat) ≤ _)); omega))
      · rw [g3]
      · exact hd
    · have hp' := hp
      simp only [free, Bool.and_eq_true, Bool.not_eq_true', decide_eq_true_eq, not_and] at hp'
      have hn := (Chain_at R.ch).2 k hlt
      have hb' : ∀ i ∈ ids.take (k + 1), free (en i) = false := by
        intro i hi
        rw [List.take_add_one] at hi
        rcases List.mem_append.1 hi with h | h
        · exact hb i h
        · have : i = ids.getD k r := by simpa [List.getD, hlt, eq_comm] using h
          rw [this]; simpa using hp
      by_cases hp1 : (en (ids.getD k r)).dirty = false
      · have hp2 := hp' hp1
        repeat' (first
    | with_reducible refine WP_seq ?_
    | ((first | with_reducible refine WP_skip ?_ | with_reducible refine SQ_nil ?_); (first | simp only [Exit.sel, Exit.blk] | simp only [EV2, EVB, stepH, gdOf, modeOf, effD, opD, putD, ofV, ofV1, D.cells, D.lay, D.one, condP, Exit.sel, Exit.blk, RetP, oneOf, resD, putAt, nilD, extrD, fillD, buildD, mapPutD, mapDelD, mapEntD, entPutD, newMapD, moveD, boundD, makeD, appendD, liveD, reduceCtorEq, if_true, if_false, ne_eq, ty_fd_70_2, ty_sz_66, ty_ag_66, ty_fd_68_5, ty_pt_66, ty_sz_68, ty_fd_68_2, ty_sz_4, ty_ag_4, ty_fd_68_3, ty_sz_3, ty_ag_3, ty_ki_3, ty_fd_68_0, Try.results38, hc, hr, hx, hne, hp1, hp2, nodeC, kC, vD]))
    | ((first | with_reducible refine WP_cond ?_ | with_reducible refine WP_ret ?_ | ((with_reducible refine SQr rfl ?_); intro rest hrest)); simp only [EV2, EVB, stepH, gdOf, modeOf, effD, opD, putD, ofV, ofV1, D.cells, D.lay, D.one, condP, Exit.sel, Exit.blk, RetP, oneOf, resD, putAt, nilD, extrD, fillD, buildD, mapPutD, mapDelD, mapEntD, entPutD, newMapD, moveD, boundD, makeD, appendD, liveD, reduceCtorEq, if_true, if_false, ne_eq, ty_fd_70_2, ty_sz_66, ty_ag_66, ty_fd_68_5, ty_pt_66, ty_sz_68, ty_fd_68_2, ty_sz_4, ty_ag_4, ty_fd_68_3, ty_sz_3, ty_ag_3, ty_ki_3, ty_fd_68_0, Try.results38, hc, hr, hx, hne, hp1, hp2, nodeC, kC, vD])
    | with_reducible refine WP_block ?_
    | ((with_reducible refine WP_exit ?_); simp only [Exit.sel, Exit.blk, reduceIte, eq_self, Nat.reduceEqDiff, Nat.zero_ne_one, Nat.one_ne_zero])
    | ((with_reducible refine hrest _ ?_); clear hrest rest)
    | with_reducible refine WP_reg (fun _ => none) (fun _ => 0) (gamma0 _) ?_
    | with_reducible refine WP_draw (fun _ => none) (fun _ => 0) (gamma0 _) (by kernel_rfl) (by kernel_rfl) ?_
    | ((with_reducible refine ifP (fun _ => ?_) (fun _ => ?_)) <;> try (exfalso; omega))
    | (with_reducible refine And.intro ?_ ?_)
    | ((with_reducible refine (id ?_ : (_ : Nat) ≤ _)); omega))
        rw [hn]
        exact ih (k + 1) _ ⟨by omega, hb'⟩ (by omega) ⟨by (repeat (first | with_reducible exact WkL.nil | with_reducible refine WkL.any ?_ | with_reducible refine WkL.same ?_ | refine WkL.eq ?_ (intw_eq (by omega) (by omega) (by omega)) | refine WkL.eq ?_ (int_eq (by omega)) | refine WkL.eq ?_ (by first | rfl | (simp; done)))), fun _ => .inl rfl⟩
      · have hp1 : (en (ids.getD k r)).dirty = true := by simpa using hp1
        repeat' (first
    | with_reducible refine WP_seq ?_
    | ((first | with_reducible refine WP_skip ?_ | with_reducible refine SQ_nil ?_); (first | simp only [Exit.sel, Exit.blk] | simp only [EV2, EVB, stepH, gdOf, modeOf, effD, opD, putD, ofV, ofV1, D.cells, D.lay, D.one, condP, Exit.sel, Exit.blk, RetP, oneOf, resD, putAt, nilD, extrD, fillD, buildD, mapPutD, mapDelD, mapEntD, entPutD, newMapD, moveD, boundD, makeD, appendD, liveD, reduceCtorEq, if_true, if_false, ne_eq, ty_fd_70_2, ty_sz_66, ty_ag_66, ty_fd_68_5, ty_pt_66, ty_sz_68, ty_fd_68_2, ty_sz_4, ty_ag_4, ty_fd_68_3, ty_sz_3, ty_ag_3, ty_ki_3, ty_fd_68_0, Try.results38, hc, hr, hx, hne, hp1, nodeC, kC, vD]))
    | ((first | with_reducible refine WP_cond ?_ | with_reducible refine WP_ret ?_ | ((with_reducible refine SQr rfl ?_); intro rest hrest)); simp only [EV2, EVB, stepH, gdOf, modeOf, effD, opD, putD, ofV, ofV1, D.cells, D.lay, D.one, condP, Exit.sel, Exit.blk, RetP, oneOf, resD, putAt, nilD, extrD, fillD, buildD, mapPutD, mapDelD, mapEntD, entPutD, newMapD, moveD, boundD, makeD, appendD, liveD, reduceCtorEq, if_true, if_false, ne_eq, ty_fd_70_2, ty_sz_66, ty_ag_66, ty_fd_68_5, ty_pt_66, ty_sz_68, ty_fd_68_2, ty_sz_4, ty_ag_4, ty_fd_68_3, ty_sz_3, ty_ag_3, ty_ki_3, ty_fd_68_0, Try.results38, hc, hr, hx, hne, hp1, nodeC, kC, vD])
    | with_reducible refine WP_block ?_
    | ((with_reducible refine WP_exit ?_); simp only [Exit.sel, Exit.blk, reduceIte, eq_self, Nat.reduceEqDiff, Nat.zero_ne_one, Nat.one_ne_zero])
    | ((with_reducible refine hrest _ ?_); clear hrest rest)
    | with_reducible refine WP_reg (fun _ => none) (fun _ => 0) (gamma0 _) ?_
    | with_reducible refine WP_draw (fun _ => none) (fun _ => 0) (gamma0 _) (by kernel_rfl) (by kernel_rfl) ?_
    | ((with_reducible refine ifP (fun _ => ?_) (fun _ => ?_)) <;> try (exfalso; omega))
    | (with_reducible refine And.intro ?_ ?_)
    | ((with_reducible refine (id ?_ : (_ : Nat) ≤ _)); omega))
        rw [hn]
        exact ih (k + 1) _ ⟨by omega, hb'⟩ (by omega) ⟨by (repeat (first | with_reducible exact WkL.nil | with_reducible refine WkL.any ?_ | with_reducible refine WkL.same ?_ | refine WkL.eq ?_ (intw_eq (by omega) (by omega) (by omega)) | refine WkL.eq ?_ (int_eq (by omega)) | refine WkL.eq ?_ (by first | rfl | (simp; done)))), fun _ => .inl rfl⟩
  · have he := node_end (r := r) hlt
    have hall : ∀ e ∈ ids.map en, ¬ free e = true := by
      intro e he
      obtain ⟨i, hi, rfl⟩ := List.mem_map.1 he
      simp [hb i (by rw [List.take_of_length_le (by omega)]; exact hi)]
    rw [he]
    repeat' (first
    | with_reducible refine WP_seq ?_
    | ((first | with_reducible refine WP_skip ?_ | with_reducible refine SQ_nil ?_); (first | simp only [Exit.sel, Exit.blk] | simp only [EV2, EVB, stepH, gdOf, modeOf, effD, opD, putD, ofV, ofV1, D.cells, D.lay, D.one, condP, Exit.sel, Exit.blk, RetP, oneOf, resD, putAt, nilD, extrD, fillD, buildD, mapPutD, mapDelD, mapEntD, entPutD, newMapD, moveD, boundD, makeD, appendD, liveD, reduceCtorEq, if_true, if_false, ne_eq, ty_fd_70_2, ty_sz_66, ty_ag_66, ty_fd_68_5, ty_pt_66, ty_sz_68, ty_fd_68_2, ty_sz_4, ty_ag_4, ty_fd_68_3, ty_sz_3, ty_ag_3, ty_ki_3, ty_fd_68_0, Try.results38, hc, hr, nodeC, kC, vD]))
    | ((first | with_reducible refine WP_cond ?_ | with_reducible refine WP_ret ?_ | ((with_reducible refine SQr rfl ?_); intro rest hrest)); simp only [EV2, EVB, stepH, gdOf, modeOf, effD, opD, putD, ofV, ofV1, D.cells, D.lay, D.one, condP, Exit.sel, Exit.blk, RetP, oneOf, resD, putAt, nilD, extrD, fillD, buildD, mapPutD, mapDelD, mapEntD, entPutD, newMapD, moveD, boundD, makeD, appendD, liveD, reduceCtorEq, if_true, if_false, ne_eq, ty_fd_70_2, ty_sz_66, ty_ag_66, ty_fd_68_5, ty_pt_66, ty_sz_68, ty_fd_68_2, ty_sz_4, ty_ag_4, ty_fd_68_3, ty_sz_3, ty_ag_3, ty_ki_3, ty_fd_68_0, Try.results38, hc, hr, nodeC, kC, vD])
    | with_reducible refine WP_block ?_
    | ((with_reducible refine WP_exit ?_); simp only [Exit.sel, Exit.blk, reduceIte, eq_self, Nat.reduceEqDiff, Nat.zero_ne_one, Nat.one_ne_zero])
    | ((with_reducible refine hrest _ ?_); clear hrest rest)
    | with_reducible refine WP_reg (fun _ => none) (fun _ => 0) (gamma0 _) ?_
    | with_reducible refine WP_draw (fun _ => none) (fun _ => 0) (gamma0 _) (by kernel_rfl) (by kernel_rfl) ?_
    | ((with_reducible refine ifP (fun _ => ?_) (fun _ => ?_)) <;> try (exfalso; omega))
    | (with_reducible refine And.intro ?_ ?_)
    | ((with_reducible refine (id ?_ : (_ : Nat) ≤ _)); omega))
    · rw [List.any_eq_false.2 hall]
    · rw [List.eraseP_of_forall_not hall]
      exact ⟨_, H0, .refl _ _⟩

/-- The keys. -/
def keysL (all : Bool) (L : List Ent) : List Key := (L.filter fun e => all || e.dirty).map Ent.key

theorem keys_nil (h : Heap) (all : Bool) : CallsA Try.prog 39 [.nilp, .bool all] h fun d h' => d = .snil ∧ h' = h := by
  refine CallsA_body Try.func39 rfl en_39 ?_
  simp only [Try.ntmps39, List.length_cons, List.length_nil, List.replicate]
  repeat' (first
    | with_reducible refine WP_seq ?_
    | ((first | with_reducible refine WP_skip ?_ | with_reducible refine SQ_nil ?_); (first | simp only [Exit.sel, Exit.blk] | simp only [EV2, EVB, stepH, gdOf, modeOf, effD, opD, putD, ofV, ofV1, D.cells, D.lay, D.one, condP, Exit.sel, Exit.blk, RetP, oneOf, resD, putAt, nilD, extrD, fillD, buildD, mapPutD, mapDelD, mapEntD, entPutD, newMapD, moveD, boundD, makeD, appendD, liveD, reduceCtorEq, if_true, if_false, ne_eq, ty_pt_25, ty_sz_70, ty_fd_70_2, ty_sz_66, ty_ag_66, ty_fd_68_5, ty_pt_66, ty_sz_68, ty_fd_68_2, ty_sz_4, ty_ag_4, ty_fd_68_0, ty_sz_3, ty_ag_3, ty_el_22, ty_ni_22, Try.results39]))
    | ((first | with_reducible refine WP_cond ?_ | with_reducible refine WP_ret ?_ | ((with_reducible refine SQr rfl ?_); intro rest hrest)); simp only [EV2, EVB, stepH, gdOf, modeOf, effD, opD, putD, ofV, ofV1, D.cells, D.lay, D.one, condP, Exit.sel, Exit.blk, RetP, oneOf, resD, putAt, nilD, extrD, fillD, buildD, mapPutD, mapDelD, mapEntD, entPutD, newMapD, moveD, boundD, makeD, appendD, liveD, reduceCtorEq, if_true, if_false, ne_eq, ty_pt_25, ty_sz_70, ty_fd_70_2, ty_sz_66, ty_ag_66, ty_fd_68_5, ty_pt_66, ty_sz_68, ty_fd_68_2, ty_sz_4, ty_ag_4, ty_fd_68_0, ty_sz_3, ty_ag_3, ty_el_22, ty_ni_22, Try.results39])
    | with_reducible refine WP_block ?_
    | ((with_reducible refine WP_exit ?_); simp only [Exit.sel, Exit.blk, reduceIte, eq_self, Nat.reduceEqDiff, Nat.zero_ne_one, Nat.one_ne_zero])
    | ((with_reducible refine hrest _ ?_); clear hrest rest)
    | with_reducible refine WP_reg (fun _ => none) (fun _ => 0) (gamma0 _) ?_
    | with_reducible refine WP_draw (fun _ => none) (fun _ => 0) (gamma0 _) (by kernel_rfl) (by kernel_rfl) ?_
    | ((with_reducible refine ifP (fun _ => ?_) (fun _ => ?_)) <;> try (exfalso; omega))
    | (with_reducible refine And.intro ?_ ?_)
    | ((with_reducible refine (id ?_ : (_ : Nat) ≤ _)); omega))
  all_goals rfl

theorem keys_calls {h : Heap} {c : Nat} {F : List Nat} {n : Int} {L : List Ent} (H : CaL h c F n L) (hL : L.length ≤ 1000000) (all : Bool) :
    CallsA Try.prog 39 [.ptr c 0, .bool all] h fun d h' => Acc 1 kC (keysL all L) h d h' := by
  have H0 := H
  obtain ⟨m, r, ids, en, H, rfl, rfl⟩ := H
  obtain ⟨pv, nx, R⟩ := H.rg
  have hc := H.hc
  have hr := R.nd r (by simp)
  rw [List.length_map] at hL
  refine CallsA_body Try.func39 rfl en_39 ?_
  simp only [Try.ntmps39, List.length_cons, List.length_nil, List.replicate]
  repeat' (first
    | with_reducible refine WP_seq ?_
    | ((first | with_reducible refine WP_skip ?_ | with_reducible refine SQ_nil ?_); (first | simp only [Exit.sel, Exit.blk] | simp only [EV2, EVB, stepH, gdOf, modeOf, effD, opD, putD, ofV, ofV1, D.cells, D.lay, D.one, condP, Exit.sel, Exit.blk, RetP, oneOf, resD, putAt, nilD, extrD, fillD, buildD, mapPutD, mapDelD, mapEntD, entPutD, newMapD, moveD, boundD, makeD, appendD, liveD, reduceCtorEq, if_true, if_false, ne_eq, ty_pt_25, ty_sz_70, ty_fd_70_2, ty_sz_66, ty_ag_66, ty_fd_68_5, ty_pt_66, ty_sz_68, ty_fd_68_2, ty_sz_4, ty_ag_4, ty_fd_68_0, ty_sz_3, ty_ag_3, ty_el_22, ty_ni_22, Try.results39, hc, hr, nodeC, kC, vD]))
    | ((first | with_reducible refine WP_cond ?_ | with_reducible refine WP_ret ?_ | ((with_reducible refine SQr rfl ?_); intro rest hrest)); simp only [EV2, EVB, stepH, gdOf, modeOf, effD, opD, putD, ofV, ofV1, D.cells, D.lay, D.one, condP, Exit.sel, Exit.blk, RetP, oneOf, resD, putAt, nilD, extrD, fillD, buildD, mapPutD, mapDelD, mapEntD, entPutD, newMapD, moveD, boundD, makeD, appendD, liveD, reduceCtorEq, if_true, if_false, ne_eq, ty_pt_25, ty_sz_70, ty_fd_70_2, ty_sz_66, ty_ag_66, ty_fd_68_5, ty_pt_66, ty_sz_68, ty_fd_68_2, ty_sz_4, ty_ag_4, ty_fd_68_0, ty_sz_3, ty_ag_3, ty_el_22, ty_ni_22, Try.results39, hc, hr, nodeC, kC, vD])
    | with_reducible refine WP_block ?_
    | ((with_reducible refine WP_exit ?_); simp only [Exit.sel, Exit.blk, reduceIte, eq_self, Nat.reduceEqDiff, Nat.zero_ne_one, Nat.one_ne_zero])
    | ((with_reducible refine hrest _ ?_); clear hrest rest)
    | with_reducible refine WP_reg (fun _ => none) (fun _ => 0) (gamma0 _) ?_
    | with_reducible refine WP_draw (fun _ => none) (fun _ => 0) (gamma0 _) (by kernel_rfl) (by kernel_rfl) ?_
    | ((with_reducible refine ifP (fun _ => ?_) (fun _ => ?_)) <;> try (exfalso; omega))
    | (with_reducible refine And.intro ?_ ?_)
    | ((with_reducible refine (id ?_ : (_ : Nat) ≤ _)); omega))
  refine WP_loop (LW_loop (α := Nat × D × Heap) (fun x => x.1 ≤ ids.length ∧ Acc 1 kC (keysL all ((ids.take x.1).map en)) h x.2.1 x.2.2) (fun x => ids.length - x.1) (fun x => ⟨[.ptr c 0, .bool all, .any, .any, .any, x.2.1, .ptr (ids.getD x.1 r) 0, .any, .any, .any, .any, .any, .any, .any, .any, .any, .any, .any, .any, .any, .any, .any, .any, .any, .any, .any, .any, .any, .any, .any, .any, .any, .any, .any, .any, .any, .any, .any, .any, .any, .any], x.2.2⟩) (0, .snil, h) ⟨Nat.zero_le _, .nil h⟩ ⟨?_, fun _ => .inl rfl⟩ ?_)
  · have h0 : D.ptr (ids.getD 0 r) 0 = D.ptr (nx r) 0 := by rw [(Chain_at R.ch).1]
    simp only [h0]
    (repeat (first | with_reducible exact WkL.nil | with_reducible refine WkL.any ?_ | with_reducible refine WkL.same ?_ | refine WkL.eq ?_ (intw_eq (by omega) (by omega) (by omega)) | refine WkL.eq ?_ (int_eq (by omega)) | refine WkL.eq ?_ (by first | rfl | (simp; done))))
  rintro ⟨k, d, h1⟩ ⟨hk, ha⟩ ih
  simp only at hk ha ih ⊢
  have hc1 := (ha.at (i := c) (by simp [hc])).trans hc
  have hr1 := (ha.at (i := r) (by simp [hr])).trans hr
  have hx := node_at R k
  have hx1 := (ha.at (i := ids.getD k r) (by rw [hx]; simp)).trans hx
  by_cases hlt : k < ids.length
  · have hne := node_ne R hlt
    have hn := (Chain_at R.ch).2 k hlt
    have ht : (ids.take (k + 1)).map en = (ids.take k).map en ++ [en (ids.getD k r)] := by
      rw [List.take_add_one, List.map_append]; congr 1; simp [List.getD, hlt]
    by_cases hp : (all || (en (ids.getD k r)).dirty) = true
    · have hkl : keysL all ((ids.take (k + 1)).map en) = keysL all ((ids.take k).map en) ++ [(en (ids.getD k r)).key] := by
        rw [ht]; simp only [keysL, List.filter_append, List.map_append, List.filter_cons, hp, if_true, List.filter_nil, List.map_cons, List.map_nil]
      have hlen : (keysL all ((ids.take k).map en)).length ≤ ids.length := by
        simp only [keysL, List.length_map]
        refine Nat.le_trans (List.length_filter_le _ _) ?_
        simp; omega
      have hp' : all = true ∨ all = false ∧ (en (ids.getD k r)).dirty = true := by cases all <;> simp_all
      rcases hp' with rfl | ⟨rfl, hq⟩
      · repeat' (first
    | with_reducible refine WP_seq ?_
    | ((first | with_reducible refine WP_skip ?_ | with_reducible refine SQ_nil ?_); (first | simp only [Exit.sel, Exit.blk] | simp only [EV2, EVB, stepH, gdOf, modeOf, effD, opD, putD, ofV, ofV1, D.cells, D.lay, D.one, condP, Exit.sel, Exit.blk, RetP, oneOf, resD, putAt, nilD, extrD, fillD, buildD, mapPutD, mapDelD, mapEntD, entPutD, newMapD, moveD, boundD, makeD, liveD, reduceCtorEq, if_true, if_false, ne_eq, ty_pt_25, ty_sz_70, ty_fd_70_2, ty_sz_66, ty_ag_66, ty_fd_68_5, ty_pt_66, ty_sz_68, ty_fd_68_2, ty_sz_4, ty_ag_4, ty_fd_68_0, ty_sz_3, ty_ag_3, ty_el_22, ty_ni_22, Try.results39, hc1, hr1, hx1, hne, nodeC, kC, vD]))
    | ((first | with_reducible refine WP_cond ?_ | with_reducible refine WP_ret ?_ | ((with_reducible refine SQr rfl ?_); intro rest hrest)); simp only [EV2, EVB, stepH, gdOf, modeOf, effD, opD, putD, ofV, ofV1, D.cells, D.lay, D.one, condP, Exit.sel, Exit.blk, RetP, oneOf, resD, putAt, nilD, extrD, fillD, buildD, mapPutD, mapDelD, mapEntD, entPutD, newMapD, moveD, boundD, makeD, liveD, reduceCtorEq, if_true, if_false, ne_eq, ty_pt_25, ty_sz_70, ty_fd_70_2, ty_sz_66, ty_ag_66, ty_fd_68_5, ty_pt_66, ty_sz_68, ty_fd_68_2, ty_sz_4, ty_ag_4, ty_fd_68_0, ty_sz_3, ty_ag_3, ty_el_22, ty_ni_22, Try.results39, hc1, hr1, hx1, hne, nodeC, kC, vD])
    | with_reducible refine WP_block ?_
    | ((with_reducible refine WP_exit ?_); simp only [Exit.sel, Exit.blk, reduceIte, eq_self, Nat.reduceEqDiff, Nat.zero_ne_one, Nat.one_ne_zero])
    | ((with_reducible refine hrest _ ?_); clear hrest rest)
    | with_reducible refine WP_reg (fun _ => none) (fun | 39 => 2 | _ => 0) (gamma0 _) ?_
    | with_reducible refine WP_draw (fun _ => none) (fun | 39 => 2 | _ => 0) (gamma0 _) (by kernel_rfl) (by kernel_rfl) ?_
    | ((with_reducible refine ifP (fun _ => ?_) (fun _ => ?_)) <;> try (exfalso; omega))
    | (with_reducible refine And.intro ?_ ?_)
    | ((with_reducible refine (id ?_ : (_ : Nat) ≤ _)); omega))
        refine ha.append (by first | exact ty_el_22) (by first | exact ty_ni_22) (ms := [(en (ids.getD k r)).key]) (by rfl) (by simp only [List.length_cons, List.length_nil]; omega) (by simp only [List.length_cons, List.length_nil]; omega) fun d2 h2 ha2 => ?_
        have hx2 := (ha2.at (i := ids.getD k r) (by rw [hx]; simp)).trans hx
        repeat' (first
    | with_reducible refine WP_seq ?_
    | ((first | with_reducible refine WP_skip ?_ | with_reducible refine SQ_nil ?_); (first | simp only [Exit.sel, Exit.blk] | simp only [EV2, EVB, stepH, gdOf, modeOf, effD, opD, putD, ofV, ofV1, D.cells, D.lay, D.one, condP, Exit.sel, Exit.blk, RetP, oneOf, resD, putAt, nilD, extrD, fillD, buildD, mapPutD, mapDelD, mapEntD, entPutD, newMapD, moveD, boundD, makeD, liveD, reduceCtorEq, if_true, if_false, ne_eq, ty_pt_25, ty_sz_70, ty_fd_70_2, ty_sz_66, ty_ag_66, ty_fd_68_5, ty_pt_66, ty_sz_68, ty_fd_68_2, ty_sz_4, ty_ag_4, ty_fd_68_0, ty_sz_3, ty_ag_3, ty_el_22, ty_ni_22, Try.results39, hx2, hne, nodeC, kC, vD]))
    | ((first | with_reducible refine WP_cond ?_ | with_reducible refine WP_ret ?_ | ((with_reducible refine SQr rfl ?_); intro rest hrest)); simp only [EV2, EVB, stepH, gdOf, modeOf, effD, opD, putD, ofV, ofV1, D.cells, D.lay, D.one, condP, Exit.sel, Exit.blk, RetP, oneOf, resD, putAt, nilD, extrD, fillD, buildD, mapPutD, mapDelD, mapEntD, entPutD, newMapD, moveD, boundD, makeD, liveD, reduceCtorEq, if_true, if_false, ne_eq, ty_pt_25, ty_sz_70, ty_fd_70_2, ty_sz_66, ty_ag_66, ty_fd_68_5, ty_pt_66, ty_sz_68, ty_fd_68_2, ty_sz_4, ty_ag_4, ty_fd_68_0, ty_sz_3, ty_ag_3, ty_el_22, ty_ni_22, Try.results39, hx2, hne, nodeC, kC, vD])
    | with_reducible refine WP_block ?_
    | ((with_reducible refine WP_exit ?_); simp only [Exit.sel, Exit.blk, reduceIte, eq_self, Nat.reduceEqDiff, Nat.zero_ne_one, Nat.one_ne_zero])
    | ((with_reducible refine hrest _ ?_); clear hrest rest)
    | with_reducible refine WP_reg (fun _ => none) (fun | 39 => 2 | _ => 0) (gamma0 _) ?_
    | with_reducible refine WP_draw (fun _ => none) (fun | 39 => 2 | _ => 0) (gamma0 _) (by kernel_rfl) (by kernel_rfl) ?_
    | ((with_reducible refine ifP (fun _ => ?_) (fun _ => ?_)) <;> try (exfalso; omega))
    | (with_reducible refine And.intro ?_ ?_)
    | ((with_reducible refine (id ?_ : (_ : Nat) ≤ _)); omega))
        rw [hn]
        exact ih (k + 1, d2, h2) _ ⟨by simp only; omega, by simp only [hkl]; exact ha2⟩ (by simp only; omega) ⟨by simp only; (repeat (first | with_reducible exact WkL.nil | with_reducible refine WkL.any ?_ | with_reducible refine WkL.same ?_ | refine WkL.eq ?_ (intw_eq (by omega) (by omega) (by omega)) | refine WkL.eq ?_ (int_eq (by omega)) | refine WkL.eq ?_ (by first | rfl | (simp; done)))), fun _ => .inl rfl⟩
      · repeat' (first
    | with_reducible refine WP_seq ?_
    | ((first | with_reducible refine WP_skip ?_ | with_reducible refine SQ_nil ?_); (first | simp only [Exit.sel, Exit.blk] | simp only [EV2, EVB, stepH, gdOf, modeOf, effD, opD, putD, ofV, ofV1, D.cells, D.lay, D.one, condP, Exit.sel, Exit.blk, RetP, oneOf, resD, putAt, nilD, extrD, fillD, buildD, mapPutD, mapDelD, mapEntD, entPutD, newMapD, moveD, boundD, makeD, liveD, reduceCtorEq, if_true, if_false, ne_eq, ty_pt_25, ty_sz_70, ty_fd_70_2, ty_sz_66, ty_ag_66, ty_fd_68_5, ty_pt_66, ty_sz_68, ty_fd_68_2, ty_sz_4, ty_ag_4, ty_fd_68_0, ty_sz_3, ty_ag_3, ty_el_22, ty_ni_22, Try.results39, hc1, hr1, hx1, hne, hq, nodeC, kC, vD]))
    | ((first | with_reducible refine WP_cond ?_ | with_reducible refine WP_ret ?_ | ((with_reducible refine SQr rfl ?_); intro rest hrest)); simp only [EV2, EVB, stepH, gdOf, modeOf, effD, opD, putD, ofV, ofV1, D.cells, D.lay, D.one, condP, Exit.sel, Exit.blk, RetP, oneOf, resD, putAt, nilD, extrD, fillD, buildD, mapPutD, mapDelD, mapEntD, entPutD, newMapD, moveD, boundD, makeD, liveD, reduceCtorEq, if_true, if_false, ne_eq, ty_pt_25, ty_sz_70, ty_fd_70_2, ty_sz_66, ty_ag_66, ty_fd_68_5, ty_pt_66, ty_sz_68, ty_fd_68_2, ty_sz_4, ty_ag_4, ty_fd_68_0, ty_sz_3, ty_ag_3, ty_el_22, ty_ni_22, Try.results39, hc1, hr1, hx1, hne, hq, nodeC, kC, vD])
    | with_reducible refine WP_block ?_
    | ((with_reducible refine WP_exit ?_); simp only [Exit.sel, Exit.blk, reduceIte, eq_self, Nat.reduceEqDiff, Nat.zero_ne_one, Nat.one_ne_zero])
    | ((with_reducible refine hrest _ ?_); clear hrest rest)
    | with_reducible refine WP_reg (fun _ => none) (fun | 39 => 2 | _ => 0) (gamma0 _) ?_
    | with_reducible refine WP_draw (fun _ => none) (fun | 39 => 2 | _ => 0) (gamma0 _) (by kernel_rfl) (by kernel_rfl) ?_
    | ((with_reducible refine ifP (fun _ => ?_) (fun _ => ?_)) <;> try (exfalso; omega))
    | (with_reducible refine And.intro ?_ ?_)
    | ((with_reducible refine (id ?_ : (_ : Nat) ≤ _)); omega))
        refine ha.append (by first | exact ty_el_22) (by first | exact ty_ni_22) (ms := [(en (ids.getD k r)).key]) (by rfl) (by simp only [List.length_cons, List.length_nil]; omega) (by simp only [List.length_cons, List.length_nil]; omega) fun d2 h2 ha2 => ?_
        have hx2 := (ha2.at (i := ids.getD k r) (by rw [hx]; simp)).trans hx
        repeat' (first
    | with_reducible refine WP_seq ?_
    | ((first | with_reducible refine WP_skip ?_ | with_reducible refine SQ_nil ?_); (first | simp only [Exit.sel, Exit.blk] | simp only [EV2, EVB, stepH, gdOf, modeOf, effD, opD, putD, ofV, ofV1, D.cells, D.lay, D.one, condP, Exit.sel, Exit.blk, RetP, oneOf, resD, putAt, nilD, extrD, fillD, buildD, mapPutD, mapDelD, mapEntD, entPutD, newMapD, moveD, boundD, makeD, liveD, reduceCtorEq, if_true, if_false, ne_eq, ty_pt_25, ty_sz_70, ty_fd_70_2, ty_sz_66, ty_ag_66, ty_fd_68_5, ty_pt_66, ty_sz_68, ty_fd_68_2, ty_sz_4, ty_ag_4, ty_fd_68_0, ty_sz_3, ty_ag_3, ty_el_22, ty_ni_22, Try.results39, hx2, hne, nodeC, kC, vD]))
    | ((first | with_reducible refine WP_cond ?_ | with_reducible refine WP_ret ?_ | ((with_reducible refine SQr rfl ?_); intro rest hrest)); simp only [EV2, EVB, stepH, gdOf, modeOf, effD, opD, putD, ofV, ofV1, D.cells, D.lay, D.one, condP, Exit.sel, Exit.blk, RetP, oneOf, resD, putAt, nilD, extrD, fillD, buildD, mapPutD, mapDelD, mapEntD, entPutD, newMapD, moveD, boundD, makeD, liveD, reduceCtorEq, if_true, if_false, ne_eq, ty_pt_25, ty_sz_70, ty_fd_70_2, ty_sz_66, ty_ag_66, ty_fd_68_5, ty_pt_66, ty_sz_68, ty_fd_68_2, ty_sz_4, ty_ag_4, ty_fd_68_0, ty_sz_3, ty_ag_3, ty_el_22, ty_ni_22, Try.results39, hx2, hne, nodeC, kC, vD])
    | with_reducible refine WP_block ?_
    | ((with_reducible refine WP_exit ?_); simp only [Exit.sel, Exit.blk, reduceIte, eq_self, Nat.reduceEqDiff, Nat.zero_ne_one, Nat.one_ne_zero])
    | ((with_reducible refine hrest _ ?_); clear hrest rest)
    | with_reducible refine WP_reg (fun _ => none) (fun | 39 => 2 | _ => 0) (gamma0 _) ?_
    | with_reducible refine WP_draw (fun _ => none) (fun | 39 => 2 | _ => 0) (gamma0 _) (by kernel_rfl) (by kernel_rfl) ?_
    | ((with_reducible refine ifP (fun _ => ?_) (fun _ => ?_)) <;> try (exfalso; omega))
    | (with_reducible refine And.intro ?_ ?_)
    | ((with_reducible refine (id ?_ : (_ : Nat) ≤ _)); omega))
        rw [hn]
        exact ih (k + 1, d2, h2) _ ⟨by simp only; omega, by simp only [hkl]; exact ha2⟩ (by simp only; omega) ⟨by simp only; (repeat (first | with_reducible exact WkL.nil | with_reducible refine WkL.any ?_ | with_reducible refine WkL.same ?_ | refine WkL.eq ?_ (intw_eq (by omega) (by omega) (by omega)) | refine WkL.eq ?_ (int_eq (by omega)) | refine WkL.eq ?_ (by first | rfl | (simp; done)))), fun _ => .inl rfl⟩
    · have hp' : all = false ∧ (en (ids.getD k r)).dirty = false := by cases all <;> simp_all
      have hkl : keysL all ((ids.take (k + 1)).map en) = keysL all ((ids.take k).map en) := by
        rw [ht]; simp only [keysL, List.filter_append, List.map_append, List.filter_cons, hp, Bool.false_eq_true, if_false, List.filter_nil, List.map_nil, List.append_nil]
      obtain ⟨rfl, hq⟩ := hp'
      repeat' (first
    | with_reducible refine WP_seq ?_
    | ((first | with_reducible refine WP_skip ?_ | with_reducible refine SQ_nil ?_); (first | simp only [Exit.sel, Exit.blk] | simp only [EV2, EVB, stepH, gdOf, modeOf, effD, opD, putD, ofV, ofV1, D.cells, D.lay, D.one, condP, Exit.sel, Exit.blk, RetP, oneOf, resD, putAt, nilD, extrD, fillD, buildD, mapPutD, mapDelD, mapEntD, entPutD, newMapD, moveD, boundD, makeD, liveD, reduceCtorEq, if_true, if_false, ne_eq, ty_pt_25, ty_sz_70, ty_fd_70_2, ty_sz_66, ty_ag_66, ty_fd_68_5, ty_pt_66, ty_sz_68, ty_fd_68_2, ty_sz_4, ty_ag_4, ty_fd_68_0, ty_sz_3, ty_ag_3, ty_el_22, ty_ni_22, Try.results39, hc1, hr1, hx1, hne, hq, nodeC, kC, vD]))
    | ((first | with_reducible refine WP_cond ?_ | with_reducible refine WP_ret ?_ | ((with_reducible refine SQr rfl ?_); intro rest hrest)); simp only [EV2, EVB, stepH, gdOf, modeOf, effD, opD, putD, ofV, ofV1, D.cells, D.lay, D.one, condP, Exit.sel, Exit.blk, RetP, oneOf, resD, putAt, nilD, extrD, fillD, buildD, mapPutD, mapDelD, mapEntD, entPutD, newMapD, moveD, boundD, makeD, liveD, reduceCtorEq, if_true, if_false, ne_eq, ty_pt_25, ty_sz_70, ty_fd_70_2, ty_sz_66, ty_ag_66, ty_fd_68_5, ty_pt_66, ty_sz_68, ty_fd_68_2, ty_sz_4, ty_ag_4, ty_fd_68_0, ty_sz_3, ty_ag_3, ty_el_22, ty_ni_22, Try.results39, hc1, hr1, hx1, hne, hq, nodeC, kC, vD])
    | with_reducible refine WP_block ?_
    | ((with_reducible refine WP_exit ?_); simp only [Exit.sel, Exit.blk, reduceIte, eq_self, Nat.reduceEqDiff, Nat.zero_ne_one, Nat.one_ne_zero])
    | ((with_reducible refine hrest _ ?_); clear hrest rest)
    | with_reducible refine WP_reg (fun _ => none) (fun | 39 => 2 | _ => 0) (gamma0 _) ?_
    | with_reducible refine WP_draw (fun _ => none) (fun | 39 => 2 | _ => 0) (gamma0 _) (by kernel_rfl) (by kernel_rfl) ?_
    | ((with_reducible refine ifP (fun _ => ?_) (fun _ => ?_)) <;> try (exfalso; omega))
    | (with_reducible refine And.intro ?_ ?_)
    | ((with_reducible refine (id ?_ : (_ : Nat) ≤ _)); omega))
      rw [hn]
      exact ih (k + 1, d, h1) _ ⟨by simp only; omega, by simp only [hkl]; exact ha⟩ (by simp only; omega) ⟨by simp only; (repeat (first | with_reducible exact WkL.nil | with_reducible refine WkL.any ?_ | with_reducible refine WkL.same ?_ | refine WkL.eq ?_ (intw_eq (by omega) (by omega) (by omega)) | refine WkL.eq ?_ (int_eq (by omega)) | refine WkL.eq ?_ (by first | rfl | (simp; done)))), fun _ => .inl rfl⟩
  · have he := node_end (r := r) hlt
    rw [List.take_of_length_le (by omega)] at ha
    rw [he]
    repeat' (first
    | with_reducible refine WP_seq ?_
    | ((first | with_reducible refine WP_skip ?_ | with_reducible refine SQ_nil ?_); (first | simp only [Exit.sel, Exit.blk] | simp only [EV2, EVB, stepH, gdOf, modeOf, effD, opD, putD, ofV, ofV1, D.cells, D.lay, D.one, condP, Exit.sel, Exit.blk, RetP, oneOf, resD, putAt, nilD, extrD, fillD, buildD, mapPutD, mapDelD, mapEntD, entPutD, newMapD, moveD, boundD, makeD, liveD, reduceCtorEq, if_true, if_false, ne_eq, ty_pt_25, ty_sz_70, ty_fd_70_2, ty_sz_66, ty_ag_66, ty_fd_68_5, ty_pt_66, ty_sz_68, ty_fd_68_2, ty_sz_4, ty_ag_4, ty_fd_68_0, ty_sz_3, ty_ag_3, ty_el_22, ty_ni_22, Try.results39, hc1, hr1, nodeC, kC, vD]))
    | ((first | with_reducible refine WP_cond ?_ | with_reducible refine WP_ret ?_ | ((with_reducible refine SQr rfl ?_); intro rest hrest)); simp only [EV2, EVB, stepH, gdOf, modeOf, effD, opD, putD, ofV, ofV1, D.cells, D.lay, D.one, condP, Exit.sel, Exit.blk, RetP, oneOf, resD, putAt, nilD, extrD, fillD, buildD, mapPutD, mapDelD, mapEntD, entPutD, newMapD, moveD, boundD, makeD, liveD, reduceCtorEq, if_true, if_false, ne_eq, ty_pt_25, ty_sz_70, ty_fd_70_2, ty_sz_66, ty_ag_66, ty_fd_68_5, ty_pt_66, ty_sz_68, ty_fd_68_2, ty_sz_4, ty_ag_4, ty_fd_68_0, ty_sz_3, ty_ag_3, ty_el_22, ty_ni_22, Try.results39, hc1, hr1, nodeC, kC, vD])
    | with_reducible refine WP_block ?_
    | ((with_reducible refine WP_exit ?_); simp only [Exit.sel, Exit.blk, reduceIte, eq_self, Nat.reduceEqDiff, Nat.zero_ne_one, Nat.one_ne_zero])
    | ((with_reducible refine hrest _ ?_); clear hrest rest)
    | with_reducible refine WP_reg (fun _ => none) (fun | 39 => 2 | _ => 0) (gamma0 _) ?_
    | with_reducible refine WP_draw (fun _ => none) (fun | 39 => 2 | _ => 0) (gamma0 _) (by kernel_rfl) (by kernel_rfl) ?_
    | ((with_reducible refine ifP (fun _ => ?_) (fun _ => ?_)) <;> try (exfalso; omega))
    | (with_reducible refine And.intro ?_ ?_)
    | ((with_reducible refine (id ?_ : (_ : Nat) ≤ _)); omega))
    exact ha
end Go.Proofs.Ytcjndiagbdkikaa.I
