/- The cache as a list of entries; getting, counting. No condition. -/
import Derived.Test.YtcjndiagbdkikaaCa4
set_option linter.unusedSimpArgs false
set_option linter.unusedVariables false
namespace Go.Proofs.Ytcjndiagbdkikaa.I

/-- What stays. -/
structure Fr (h h' : Heap) (F F' : List Nat) : Prop where
  keep : ∀ i, i ∉ F → h i ≠ none → h' i = h i
  foot : ∀ i ∈ F', i ∈ F ∨ h i = none

theorem Fr.refl (h : Heap) (F : List Nat) : Fr h h F F := ⟨fun _ _ _ => rfl, fun _ h => .inl h⟩

/-- The cache as a list of entries. -/
def CaL (h : Heap) (c : Nat) (F : List Nat) (n : Int) (L : List Ent) : Prop := ∃ m r ids en, Ca h c m r n ids en ∧ F = c :: m :: r :: ids ∧ L = ids.map en

def fnd (k : Key) (L : List Ent) : Option Ent := L.find? fun e => e.key == k
def rem (k : Key) (L : List Ent) : List Ent := L.eraseP fun e => e.key == k
def usd (k : Key) (L : List Ent) : List Ent := match fnd k L with | none => L | some e => rem k L ++ [e]

theorem fnd_map (k : Key) (ids : List Nat) (en : Nat → Ent) : fnd k (ids.map en) = (lk k ids en).map en := by
  simp only [fnd, lk, List.find?_map]; rfl

theorem rem_map {k : Key} {ids : List Nat} {en : Nat → Ent} {i : Nat} (h : lk k ids en = some i) : rem k (ids.map en) = (ids.erase i).map en := by
  obtain ⟨h1, l1, l2, rfl, h2⟩ := List.find?_eq_some_iff_append.1 h
  have hi : i ∉ l1 := fun hm => by have := h2 i hm; simp [h1] at this
  have h1' : (en i).key = k := by simpa using h1
  rw [List.erase_append_right _ hi, List.erase_cons_head, rem, List.map_append, List.eraseP_append_right, List.map_cons, List.eraseP_cons_of_pos (by simp [h1']), List.map_append]
  intro e he
  obtain ⟨j, hj, rfl⟩ := List.mem_map.1 he
  simpa using h2 j hj

/-- Reordered. -/
theorem Ca.perm {h h' : Heap} {c m r : Nat} {n : Int} {ids ids' : List Nat} {en : Nat → Ent} (H : Ca h c m r n ids en) (hp : ids'.Perm ids) (hf : ∀ i, i ∉ r :: ids → h' i = h i) (hr : ∃ pv nx, Rg h' r ids' en pv nx) : Ca h' c m r n ids' en := by
  obtain ⟨n1, n2, n3⟩ := H.ne
  obtain ⟨mes, clock, pr, hm, h1, h2⟩ := H.mp
  exact ⟨by rw [hf c n1]; exact H.hc, ⟨mes, clock, pr, by rw [hf m n2]; exact hm, h1, h2.trans (hp.map _).symm⟩, hr, ((hp.map _).nodup_iff).2 H.ky⟩

theorem perm_use {ids : List Nat} {i : Nat} (h : i ∈ ids) : (ids.erase i ++ [i]).Perm ids :=
  (List.perm_append_comm (l₁ := ids.erase i) (l₂ := [i])).trans (List.perm_cons_erase h).symm

theorem get_nil (h : Heap) (k : Key) : CallsA Try.prog 10 [.nilp, kD k] h fun d h' => d = .tup [vD vz, .bool false] ∧ h' = h := by
  refine CallsA_body Try.func10 rfl en_10 ?_
  simp only [Try.ntmps10, List.length_cons, List.length_nil, List.replicate]
  repeat' (first
    | with_reducible refine WP_seq ?_
    | ((first | with_reducible refine WP_skip ?_ | with_reducible refine SQ_nil ?_); (first | simp only [Exit.sel, Exit.blk] | simp only [EV2, EVB, stepH, gdOf, modeOf, effD, opD, putD, ofV, ofV1, D.cells, D.lay, D.one, condP, Exit.sel, Exit.blk, RetP, oneOf, resD, putAt, nilD, extrD, fillD, buildD, mapPutD, mapDelD, mapEntD, entPutD, newMapD, moveD, boundD, makeD, appendD, liveD, reduceCtorEq, if_true, if_false, ne_eq, ty_pt_66, ty_sz_68, ty_fd_68_1, ty_sz_3, ty_ag_3, Try.results10]))
    | ((first | with_reducible refine WP_cond ?_ | with_reducible refine WP_ret ?_ | ((with_reducible refine SQr rfl ?_); intro rest hrest)); simp only [EV2, EVB, stepH, gdOf, modeOf, effD, opD, putD, ofV, ofV1, D.cells, D.lay, D.one, condP, Exit.sel, Exit.blk, RetP, oneOf, resD, putAt, nilD, extrD, fillD, buildD, mapPutD, mapDelD, mapEntD, entPutD, newMapD, moveD, boundD, makeD, appendD, liveD, reduceCtorEq, if_true, if_false, ne_eq, ty_pt_66, ty_sz_68, ty_fd_68_1, ty_sz_3, ty_ag_3, Try.results10])
    | with_reducible refine WP_block ?_
    | ((with_reducible refine WP_exit ?_); simp only [Exit.sel, Exit.blk, reduceIte, eq_self, Nat.reduceEqDiff, Nat.zero_ne_one, Nat.one_ne_zero])
    | ((with_reducible refine hrest _ ?_); clear hrest rest)
    | with_reducible refine WP_reg (fun _ => none) (fun _ => 0) (gamma0 _) ?_
    | with_reducible refine WP_draw (fun _ => none) (fun _ => 0) (gamma0 _) (by kernel_rfl) (by kernel_rfl) ?_
    | ((with_reducible refine ifP (fun _ => ?_) (fun _ => ?_)) <;> try (exfalso; omega))
    | (with_reducible refine And.intro ?_ ?_)
    | ((with_reducible refine (id ?_ : (_ : Nat) ≤ _)); omega))
  refine (find_nil h k).mono fun _ h' ⟨hd, hh⟩ => ?_
  subst hd hh
  repeat' (first
    | with_reducible refine WP_seq ?_
    | ((first | with_reducible refine WP_skip ?_ | with_reducible refine SQ_nil ?_); (first | simp only [Exit.sel, Exit.blk] | simp only [EV2, EVB, stepH, gdOf, modeOf, effD, opD, putD, ofV, ofV1, D.cells, D.lay, D.one, condP, Exit.sel, Exit.blk, RetP, oneOf, resD, putAt, nilD, extrD, fillD, buildD, mapPutD, mapDelD, mapEntD, entPutD, newMapD, moveD, boundD, makeD, appendD, liveD, reduceCtorEq, if_true, if_false, ne_eq, ty_pt_66, ty_sz_68, ty_fd_68_1, ty_sz_3, ty_ag_3, Try.results10]))
    | ((first | with_reducible refine WP_cond ?_ | with_reducible refine WP_ret ?_ | ((with_reducible refine SQr rfl ?_); intro rest hrest)); simp only [EV2, EVB, stepH, gdOf, modeOf, effD, opD, putD, ofV, ofV1, D.cells, D.lay, D.one, condP, Exit.sel, Exit.blk, RetP, oneOf, resD, putAt, nilD, extrD, fillD, buildD, mapPutD, mapDelD, mapEntD, entPutD, newMapD, moveD, boundD, makeD, appendD, liveD, reduceCtorEq, if_true, if_false, ne_eq, ty_pt_66, ty_sz_68, ty_fd_68_1, ty_sz_3, ty_ag_3, Try.results10])
    | with_reducible refine WP_block ?_
    | ((with_reducible refine WP_exit ?_); simp only [Exit.sel, Exit.blk, reduceIte, eq_self, Nat.reduceEqDiff, Nat.zero_ne_one, Nat.one_ne_zero])
    | ((with_reducible refine hrest _ ?_); clear hrest rest)
    | with_reducible refine WP_reg (fun _ => none) (fun _ => 0) (gamma0 _) ?_
    | with_reducible refine WP_draw (fun _ => none) (fun _ => 0) (gamma0 _) (by kernel_rfl) (by kernel_rfl) ?_
    | ((with_reducible refine ifP (fun _ => ?_) (fun _ => ?_)) <;> try (exfalso; omega))
    | (with_reducible refine And.intro ?_ ?_)
    | ((with_reducible refine (id ?_ : (_ : Nat) ≤ _)); omega))
  all_goals rfl

theorem get_calls {h : Heap} {c : Nat} {F : List Nat} {n : Int} {L : List Ent} (H : CaL h c F n L) (k : Key) :
    CallsA Try.prog 10 [.ptr c 0, kD k] h fun d h' => d = .tup [vD (((fnd k L).map Ent.val).getD vz), .bool (fnd k L).isSome] ∧ ∃ F', CaL h' c F' n (usd k L) ∧ Fr h h' F F' := by
  obtain ⟨m, r, ids, en, H, rfl, rfl⟩ := H
  have hc := H.hc
  rw [usd, fnd_map]
  refine CallsA_body Try.func10 rfl en_10 ?_
  simp only [Try.ntmps10, List.length_cons, List.length_nil, List.replicate]
  repeat' (first
    | with_reducible refine WP_seq ?_
    | ((first | with_reducible refine WP_skip ?_ | with_reducible refine SQ_nil ?_); (first | simp only [Exit.sel, Exit.blk] | simp only [EV2, EVB, stepH, gdOf, modeOf, effD, opD, putD, ofV, ofV1, D.cells, D.lay, D.one, condP, Exit.sel, Exit.blk, RetP, oneOf, resD, putAt, nilD, extrD, fillD, buildD, mapPutD, mapDelD, mapEntD, entPutD, newMapD, moveD, boundD, makeD, appendD, liveD, reduceCtorEq, if_true, if_false, ne_eq, ty_pt_66, ty_sz_68, ty_fd_68_1, ty_sz_3, ty_ag_3, Try.results10]))
    | ((first | with_reducible refine WP_cond ?_ | with_reducible refine WP_ret ?_ | ((with_reducible refine SQr rfl ?_); intro rest hrest)); simp only [EV2, EVB, stepH, gdOf, modeOf, effD, opD, putD, ofV, ofV1, D.cells, D.lay, D.one, condP, Exit.sel, Exit.blk, RetP, oneOf, resD, putAt, nilD, extrD, fillD, buildD, mapPutD, mapDelD, mapEntD, entPutD, newMapD, moveD, boundD, makeD, appendD, liveD, reduceCtorEq, if_true, if_false, ne_eq, ty_pt_66, ty_sz_68, ty_fd_68_1, ty_sz_3, ty_ag_3, Try.results10])
    | with_reducible refine WP_block ?_
    | ((with_reducible refine WP_exit ?_); simp only [Exit.sel, Exit.blk, reduceIte, eq_self, Nat.reduceEqDiff, Nat.zero_ne_one, Nat.one_ne_zero])
    | ((with_reducible refine hrest _ ?_); clear hrest rest)
    | with_reducible refine WP_reg (fun _ => none) (fun _ => 0) (gamma0 _) ?_
    | with_reducible refine WP_draw (fun _ => none) (fun _ => 0) (gamma0 _) (by kernel_rfl) (by kernel_rfl) ?_
    | ((with_reducible refine ifP (fun _ => ?_) (fun _ => ?_)) <;> try (exfalso; omega))
    | (with_reducible refine And.intro ?_ ?_)
    | ((with_reducible refine (id ?_ : (_ : Nat) ≤ _)); omega))
  refine (find_calls H k).mono fun d h' ⟨hd, hh⟩ => ?_
  subst hd hh
  (with_reducible refine hrest _ ?_); clear hrest rest
  cases hl : lk k ids en with
  | none =>
    simp only [Option.map_none, Option.getD_none]
    repeat' (first
    | with_reducible refine WP_seq ?_
    | ((first | with_reducible refine WP_skip ?_ | with_reducible refine SQ_nil ?_); (first | simp only [Exit.sel, Exit.blk] | simp only [EV2, EVB, stepH, gdOf, modeOf, effD, opD, putD, ofV, ofV1, D.cells, D.lay, D.one, condP, Exit.sel, Exit.blk, RetP, oneOf, resD, putAt, nilD, extrD, fillD, buildD, mapPutD, mapDelD, mapEntD, entPutD, newMapD, moveD, boundD, makeD, appendD, liveD, reduceCtorEq, if_true, if_false, ne_eq, ty_pt_66, ty_sz_68, ty_fd_68_1, ty_sz_3, ty_ag_3, Try.results10]))
    | ((first | with_reducible refine WP_cond ?_ | with_reducible refine WP_ret ?_ | ((with_reducible refine SQr rfl ?_); intro rest hrest)); simp only [EV2, EVB, stepH, gdOf, modeOf, effD, opD, putD, ofV, ofV1, D.cells, D.lay, D.one, condP, Exit.sel, Exit.blk, RetP, oneOf, resD, putAt, nilD, extrD, fillD, buildD, mapPutD, mapDelD, mapEntD, entPutD, newMapD, moveD, boundD, makeD, appendD, liveD, reduceCtorEq, if_true, if_false, ne_eq, ty_pt_66, ty_sz_68, ty_fd_68_1, ty_sz_3, ty_ag_3, Try.results10])
    | with_reducible refine WP_block ?_
    | ((with_reducible refine WP_exit ?_); simp only [Exit.sel, Exit.blk, reduceIte, eq_self, Nat.reduceEqDiff, Nat.zero_ne_one, Nat.one_ne_zero])
    | ((with_reducible refine hrest _ ?_); clear hrest rest)
    | with_reducible refine WP_reg (fun _ => none) (fun _ => 0) (gamma0 _) ?_
    | with_reducible refine WP_draw (fun _ => none) (fun _ => 0) (gamma0 _) (by kernel_rfl) (by kernel_rfl) ?_
    | ((with_reducible refine ifP (fun _ => ?_) (fun _ => ?_)) <;> try (exfalso; omega))
    | (with_reducible refine And.intro ?_ ?_)
    | ((with_reducible refine (id ?_ : (_ : Nat) ≤ _)); omega))
    · rfl
    · exact ⟨_, ⟨m, r, ids, en, H, rfl, rfl⟩, .refl _ _⟩
  | some i =>
    simp only [Option.map_some, Option.getD_some]
    repeat' (first
    | with_reducible refine WP_seq ?_
    | ((first | with_reducible refine WP_skip ?_ | with_reducible refine SQ_nil ?_); (first | simp only [Exit.sel, Exit.blk] | simp only [EV2, EVB, stepH, gdOf, modeOf, effD, opD, putD, ofV, ofV1, D.cells, D.lay, D.one, condP, Exit.sel, Exit.blk, RetP, oneOf, resD, putAt, nilD, extrD, fillD, buildD, mapPutD, mapDelD, mapEntD, entPutD, newMapD, moveD, boundD, makeD, appendD, liveD, reduceCtorEq, if_true, if_false, ne_eq, ty_pt_66, ty_sz_68, ty_fd_68_1, ty_sz_3, ty_ag_3, Try.results10]))
    | ((first | with_reducible refine WP_cond ?_ | with_reducible refine WP_ret ?_ | ((with_reducible refine SQr rfl ?_); intro rest hrest)); simp only [EV2, EVB, stepH, gdOf, modeOf, effD, opD, putD, ofV, ofV1, D.cells, D.lay, D.one, condP, Exit.sel, Exit.blk, RetP, oneOf, resD, putAt, nilD, extrD, fillD, buildD, mapPutD, mapDelD, mapEntD, entPutD, newMapD, moveD, boundD, makeD, appendD, liveD, reduceCtorEq, if_true, if_false, ne_eq, ty_pt_66, ty_sz_68, ty_fd_68_1, ty_sz_3, ty_ag_3, Try.results10])
    | with_reducible refine WP_block ?_
    | ((with_reducible refine WP_exit ?_); simp only [Exit.sel, Exit.blk, reduceIte, eq_self, Nat.reduceEqDiff, Nat.zero_ne_one, Nat.one_ne_zero])
    | ((with_reducible refine hrest _ ?_); clear hrest rest)
    | with_reducible refine WP_reg (fun _ => none) (fun _ => 0) (gamma0 _) ?_
    | with_reducible refine WP_draw (fun _ => none) (fun _ => 0) (gamma0 _) (by kernel_rfl) (by kernel_rfl) ?_
    | ((with_reducible refine ifP (fun _ => ?_) (fun _ => ?_)) <;> try (exfalso; omega))
    | (with_reducible refine And.intro ?_ ?_)
    | ((with_reducible refine (id ?_ : (_ : Nat) ≤ _)); omega))
    obtain ⟨hi, hk⟩ := lk_some hl
    obtain ⟨pv, nx, R⟩ := H.rg
    refine (use_in hc R H.ne.1 hi).mono fun _ h1 ⟨⟨pv1, nx1, R1⟩, hf⟩ => ?_
    have hx := R1.nd i (by simp)
    repeat' (first
    | with_reducible refine WP_seq ?_
    | ((first | with_reducible refine WP_skip ?_ | with_reducible refine SQ_nil ?_); (first | simp only [Exit.sel, Exit.blk] | simp only [EV2, EVB, stepH, gdOf, modeOf, effD, opD, putD, ofV, ofV1, D.cells, D.lay, D.one, condP, Exit.sel, Exit.blk, RetP, oneOf, resD, putAt, nilD, extrD, fillD, buildD, mapPutD, mapDelD, mapEntD, entPutD, newMapD, moveD, boundD, makeD, appendD, liveD, reduceCtorEq, if_true, if_false, ne_eq, ty_pt_66, ty_sz_68, ty_fd_68_1, ty_sz_3, ty_ag_3, Try.results10, hx, nodeC, kC, vD]))
    | ((first | with_reducible refine WP_cond ?_ | with_reducible refine WP_ret ?_ | ((with_reducible refine SQr rfl ?_); intro rest hrest)); simp only [EV2, EVB, stepH, gdOf, modeOf, effD, opD, putD, ofV, ofV1, D.cells, D.lay, D.one, condP, Exit.sel, Exit.blk, RetP, oneOf, resD, putAt, nilD, extrD, fillD, buildD, mapPutD, mapDelD, mapEntD, entPutD, newMapD, moveD, boundD, makeD, appendD, liveD, reduceCtorEq, if_true, if_false, ne_eq, ty_pt_66, ty_sz_68, ty_fd_68_1, ty_sz_3, ty_ag_3, Try.results10, hx, nodeC, kC, vD])
    | with_reducible refine WP_block ?_
    | ((with_reducible refine WP_exit ?_); simp only [Exit.sel, Exit.blk, reduceIte, eq_self, Nat.reduceEqDiff, Nat.zero_ne_one, Nat.one_ne_zero])
    | ((with_reducible refine hrest _ ?_); clear hrest rest)
    | with_reducible refine WP_reg (fun _ => none) (fun _ => 0) (gamma0 _) ?_
    | with_reducible refine WP_draw (fun _ => none) (fun _ => 0) (gamma0 _) (by kernel_rfl) (by kernel_rfl) ?_
    | ((with_reducible refine ifP (fun _ => ?_) (fun _ => ?_)) <;> try (exfalso; omega))
    | (with_reducible refine And.intro ?_ ?_)
    | ((with_reducible refine (id ?_ : (_ : Nat) ≤ _)); omega))
    · refine ⟨_, ⟨m, r, _, en, H.perm (perm_use hi) hf ⟨_, _, R1⟩, rfl, ?_⟩, ⟨fun j hj _ => hf j ?_, fun j hj => .inl ?_⟩⟩
      · rw [rem_map hl]; simp
      · intro e; apply hj; simp only [List.mem_cons] at e ⊢; exact .inr (.inr e)
      · simp only [List.mem_cons, (perm_use hi).mem_iff] at hj ⊢; exact hj

theorem len_nil (h : Heap) : CallsA Try.prog 15 [.nilp] h fun d h' => d = .int .i64 0 ∧ h' = h := by
  refine CallsA_body Try.func15 rfl en_15 ?_
  simp only [Try.ntmps15, List.length_cons, List.length_nil, List.replicate]
  repeat' (first
    | with_reducible refine WP_seq ?_
    | ((first | with_reducible refine WP_skip ?_ | with_reducible refine SQ_nil ?_); (first | simp only [Exit.sel, Exit.blk] | simp only [EV2, EVB, stepH, gdOf, modeOf, effD, opD, putD, ofV, ofV1, D.cells, D.lay, D.one, condP, Exit.sel, Exit.blk, RetP, oneOf, resD, putAt, nilD, extrD, fillD, buildD, mapPutD, mapDelD, mapEntD, entPutD, newMapD, moveD, boundD, makeD, appendD, liveD, reduceCtorEq, if_true, if_false, ne_eq, ty_pt_25, ty_sz_70, ty_fd_70_1, ty_sz_65, ty_ag_65, ty_mu_65, ty_ma_65, Try.results15]))
    | ((first | with_reducible refine WP_cond ?_ | with_reducible refine WP_ret ?_ | ((with_reducible refine SQr rfl ?_); intro rest hrest)); simp only [EV2, EVB, stepH, gdOf, modeOf, effD, opD, putD, ofV, ofV1, D.cells, D.lay, D.one, condP, Exit.sel, Exit.blk, RetP, oneOf, resD, putAt, nilD, extrD, fillD, buildD, mapPutD, mapDelD, mapEntD, entPutD, newMapD, moveD, boundD, makeD, appendD, liveD, reduceCtorEq, if_true, if_false, ne_eq, ty_pt_25, ty_sz_70, ty_fd_70_1, ty_sz_65, ty_ag_65, ty_mu_65, ty_ma_65, Try.results15])
    | with_reducible refine WP_block ?_
    | ((with_reducible refine WP_exit ?_); simp only [Exit.sel, Exit.blk, reduceIte, eq_self, Nat.reduceEqDiff, Nat.zero_ne_one, Nat.one_ne_zero])
    | ((with_reducible refine hrest _ ?_); clear hrest rest)
    | with_reducible refine WP_reg (fun _ => none) (fun _ => 0) (gamma0 _) ?_
    | with_reducible refine WP_draw (fun _ => none) (fun _ => 0) (gamma0 _) (by kernel_rfl) (by kernel_rfl) ?_
    | ((with_reducible refine ifP (fun _ => ?_) (fun _ => ?_)) <;> try (exfalso; omega))
    | (with_reducible refine And.intro ?_ ?_)
    | ((with_reducible refine (id ?_ : (_ : Nat) ≤ _)); omega))
  all_goals rfl

theorem len_calls {h : Heap} {c : Nat} {F : List Nat} {n : Int} {L : List Ent} (H : CaL h c F n L) :
    CallsA Try.prog 15 [.ptr c 0] h fun d h' => d = .int .i64 L.length ∧ h' = h := by
  obtain ⟨m, r, ids, en, H, rfl, rfl⟩ := H
  obtain ⟨mes, clock, pr, hm, h1, h2⟩ := H.mp
  have hc := H.hc
  have hl : mes.length = ids.length := by
    have := congrArg List.length h1
    simp only [List.length_map] at this
    rw [this, h2.length_eq, List.length_map]
  refine CallsA_body Try.func15 rfl en_15 ?_
  simp only [Try.ntmps15, List.length_cons, List.length_nil, List.replicate]
  repeat' (first
    | with_reducible refine WP_seq ?_
    | ((first | with_reducible refine WP_skip ?_ | with_reducible refine SQ_nil ?_); (first | simp only [Exit.sel, Exit.blk] | simp only [EV2, EVB, stepH, gdOf, modeOf, effD, opD, putD, ofV, ofV1, D.cells, D.lay, D.one, condP, Exit.sel, Exit.blk, RetP, oneOf, resD, putAt, nilD, extrD, fillD, buildD, mapPutD, mapDelD, mapEntD, entPutD, newMapD, moveD, boundD, makeD, appendD, liveD, reduceCtorEq, if_true, if_false, ne_eq, ty_pt_25, ty_sz_70, ty_fd_70_1, ty_sz_65, ty_ag_65, ty_mu_65, ty_ma_65, Try.results15, hc, hm, hl]))
    | ((first | with_reducible refine WP_cond ?_ | with_reducible refine WP_ret ?_ | ((with_reducible refine SQr rfl ?_); intro rest hrest)); simp only [EV2, EVB, stepH, gdOf, modeOf, effD, opD, putD, ofV, ofV1, D.cells, D.lay, D.one, condP, Exit.sel, Exit.blk, RetP, oneOf, resD, putAt, nilD, extrD, fillD, buildD, mapPutD, mapDelD, mapEntD, entPutD, newMapD, moveD, boundD, makeD, appendD, liveD, reduceCtorEq, if_true, if_false, ne_eq, ty_pt_25, ty_sz_70, ty_fd_70_1, ty_sz_65, ty_ag_65, ty_mu_65, ty_ma_65, Try.results15, hc, hm, hl])
    | with_reducible refine WP_block ?_
    | ((with_reducible refine WP_exit ?_); simp only [Exit.sel, Exit.blk, reduceIte, eq_self, Nat.reduceEqDiff, Nat.zero_ne_one, Nat.one_ne_zero])
    | ((with_reducible refine hrest _ ?_); clear hrest rest)
    | with_reducible refine WP_reg (fun _ => none) (fun _ => 0) (gamma0 _) ?_
    | with_reducible refine WP_draw (fun _ => none) (fun _ => 0) (gamma0 _) (by kernel_rfl) (by kernel_rfl) ?_
    | ((with_reducible refine ifP (fun _ => ?_) (fun _ => ?_)) <;> try (exfalso; omega))
    | (with_reducible refine And.intro ?_ ?_)
    | ((with_reducible refine (id ?_ : (_ : Nat) ≤ _)); omega))
  all_goals simp
end Go.Proofs.Ytcjndiagbdkikaa.I
