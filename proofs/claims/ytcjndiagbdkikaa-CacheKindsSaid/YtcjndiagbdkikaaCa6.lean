/- Dropping, pinning, cleaning. No condition. -/
import Derived.Test.YtcjndiagbdkikaaCa5
set_option linter.unusedSimpArgs false
set_option linter.unusedVariables false
namespace Go.Proofs.Ytcjndiagbdkikaa.I

def upk (k : Key) (f : Ent → Ent) (L : List Ent) : List Ent := L.map fun e => if e.key = k then f e else e

theorem upk_map {k : Key} {ids : List Nat} {en : Nat → Ent} {i : Nat} (f : Ent → Ent) (hl : lk k ids en = some i) (hk : (ids.map fun i => (en i).key).Nodup) : upk k f (ids.map en) = ids.map fun j => if j = i then f (en i) else en j := by
  obtain ⟨hi, he⟩ := lk_some hl
  rw [upk, List.map_map]
  refine List.map_congr_left fun j hj => ?_
  by_cases hji : j = i
  · simp [hji, he]
  · have : (en j).key ≠ k := fun e => hji (key_inj hk hj hi (by rw [e, he]))
    simp [hji, this]

/-- An entry changed, but for its key. -/
theorem Ca.set {h h' : Heap} {c m r : Nat} {n : Int} {ids : List Nat} {en : Nat → Ent} (H : Ca h c m r n ids en) {i : Nat} (hi : i ∈ ids) {e : Ent} (he : e.key = (en i).key) {pv nx : Nat → Nat} (R : Rg h r ids en pv nx)
    (hf : ∀ j, j ≠ i → h' j = h j) (hv : h' i = some (.cells (nodeC e (pv i) (nx i)))) : Ca h' c m r n ids (fun j => if j = i then e else en j) := by
  obtain ⟨n1, n2, n3⟩ := H.ne
  obtain ⟨mes, clock, pr, hm, h1, h2⟩ := H.mp
  have hk : ∀ j, (if j = i then e else en j).key = (en j).key := fun j => by by_cases hj : j = i <;> simp [hj, he]
  refine ⟨by rw [hf c (fun e => n1 (by simp [e, hi]))]; exact H.hc, ⟨mes, clock, pr, by rw [hf m (fun e => n2 (by simp [e, hi]))]; exact hm, h1, ?_⟩, ⟨pv, nx, fun j hj => ?_, R.ch, R.un⟩, ?_⟩
  · simpa only [hk] using h2
  · by_cases hji : j = i
    · subst hji; simpa using hv
    · rw [hf j hji]; simpa [hji] using R.nd j hj
  · simpa only [hk] using H.ky

theorem drop_nil (h : Heap) (k : Key) : CallsA Try.prog 24 [.nilp, kD k] h fun d h' => d = .bool false ∧ h' = h := by
  refine CallsA_body Try.func24 rfl en_24 ?_
  simp only [Try.ntmps24, List.length_cons, List.length_nil, List.replicate]
  repeat' (first
    | with_reducible refine WP_seq ?_
    | ((first | with_reducible refine WP_skip ?_ | with_reducible refine SQ_nil ?_); (first | simp only [Exit.sel, Exit.blk] | simp only [EV2, EVB, stepH, gdOf, modeOf, effD, opD, putD, ofV, ofV1, D.cells, D.lay, D.one, condP, Exit.sel, Exit.blk, RetP, oneOf, resD, putAt, nilD, extrD, fillD, buildD, mapPutD, mapDelD, mapEntD, entPutD, newMapD, moveD, boundD, makeD, appendD, liveD, reduceCtorEq, if_true, if_false, ne_eq, ty_pt_66, ty_sz_68, ty_fd_68_3, ty_sz_3, ty_ag_3, ty_fd_70_1, ty_sz_65, ty_ag_65, ty_ma_65, ty_ki_3, Try.results24]))
    | ((first | with_reducible refine WP_cond ?_ | with_reducible refine WP_ret ?_ | ((with_reducible refine SQr rfl ?_); intro rest hrest)); simp only [EV2, EVB, stepH, gdOf, modeOf, effD, opD, putD, ofV, ofV1, D.cells, D.lay, D.one, condP, Exit.sel, Exit.blk, RetP, oneOf, resD, putAt, nilD, extrD, fillD, buildD, mapPutD, mapDelD, mapEntD, entPutD, newMapD, moveD, boundD, makeD, appendD, liveD, reduceCtorEq, if_true, if_false, ne_eq, ty_pt_66, ty_sz_68, ty_fd_68_3, ty_sz_3, ty_ag_3, ty_fd_70_1, ty_sz_65, ty_ag_65, ty_ma_65, ty_ki_3, Try.results24])
    | with_reducible refine WP_block ?_
    | ((with_reducible refine WP_exit ?_); simp only [Exit.sel, Exit.blk, reduceIte, eq_self, Nat.reduceEqDiff, Nat.zero_ne_one, Nat.one_ne_zero])
    | ((with_reducible refine hrest _ ?_); clear hrest rest)
    | with_reducible refine WP_reg (fun _ => none) (fun _ => 0) (gamma0 _) ?_
    | with_reducible refine WP_draw (fun _ => none) (fun _ => 0) (gamma0 _) (by kernel_rfl) (by kernel_rfl) ?_
    | ((with_reducible refine ifP (fun _ => ?_) (fun _ => ?_)) <;> try (exfalso; omega))
    | (with_reducible refine And.intro ?_ ?_)
    | ((with_reducible refine (id ?_ : (_ : Nat) ≤ _)); omega))
  refine (find_nil h k).mono fun _ h' ⟨hd, hh⟩ => ?_
  subst hd hh
  repeat' (first
    | with_reducible refine WP_seq ?_
    | ((first | with_reducible refine WP_skip ?_ | with_reducible refine SQ_nil ?_); (first | simp only [Exit.sel, Exit.blk] | simp only [EV2, EVB, stepH, gdOf, modeOf, effD, opD, putD, ofV, ofV1, D.cells, D.lay, D.one, condP, Exit.sel, Exit.blk, RetP, oneOf, resD, putAt, nilD, extrD, fillD, buildD, mapPutD, mapDelD, mapEntD, entPutD, newMapD, moveD, boundD, makeD, appendD, liveD, reduceCtorEq, if_true, if_false, ne_eq, ty_pt_66, ty_sz_68, ty_fd_68_3, ty_sz_3, ty_ag_3, ty_fd_70_1, ty_sz_65, ty_ag_65, ty_ma_65, ty_ki_3, Try.results24]))
    | ((first | with_reducible refine WP_cond ?_ | with_reducible refine WP_ret ?_ | ((with_reducible refine SQr rfl ?_); intro rest hrest)); simp only [EV2, EVB, stepH, gdOf, modeOf, effD, opD, putD, ofV, ofV1, D.cells, D.lay, D.one, condP, Exit.sel, Exit.blk, RetP, oneOf, resD, putAt, nilD, extrD, fillD, buildD, mapPutD, mapDelD, mapEntD, entPutD, newMapD, moveD, boundD, makeD, appendD, liveD, reduceCtorEq, if_true, if_false, ne_eq, ty_pt_66, ty_sz_68, ty_fd_68_3, ty_sz_3, ty_ag_3, ty_fd_70_1, ty_sz_65, ty_ag_65, ty_ma_65, ty_ki_3, Try.results24])
    | with_reducible refine WP_block ?_
    | ((with_reducible refine WP_exit ?_); simp only [Exit.sel, Exit.blk, reduceIte, eq_self, Nat.reduceEqDiff, Nat.zero_ne_one, Nat.one_ne_zero])
    | ((with_reducible refine hrest _ ?_); clear hrest rest)
    | with_reducible refine WP_reg (fun _ => none) (fun _ => 0) (gamma0 _) ?_
    | with_reducible refine WP_draw (fun _ => none) (fun _ => 0) (gamma0 _) (by kernel_rfl) (by kernel_rfl) ?_
    | ((with_reducible refine ifP (fun _ => ?_) (fun _ => ?_)) <;> try (exfalso; omega))
    | (with_reducible refine And.intro ?_ ?_)
    | ((with_reducible refine (id ?_ : (_ : Nat) ≤ _)); omega))
  all_goals rfl
theorem pin_nil (h : Heap) (k : Key) : CallsA Try.prog 16 [.nilp, kD k] h fun d h' => d = .bool false ∧ h' = h := by
  refine CallsA_body Try.func16 rfl en_16 ?_
  simp only [Try.ntmps16, List.length_cons, List.length_nil, List.replicate]
  repeat' (first
    | with_reducible refine WP_seq ?_
    | ((first | with_reducible refine WP_skip ?_ | with_reducible refine SQ_nil ?_); (first | simp only [Exit.sel, Exit.blk] | simp only [EV2, EVB, stepH, gdOf, modeOf, effD, opD, putD, ofV, ofV1, D.cells, D.lay, D.one, condP, Exit.sel, Exit.blk, RetP, oneOf, resD, putAt, nilD, extrD, fillD, buildD, mapPutD, mapDelD, mapEntD, entPutD, newMapD, moveD, boundD, makeD, appendD, liveD, reduceCtorEq, if_true, if_false, ne_eq, ty_pt_66, ty_sz_68, ty_fd_68_3, ty_sz_3, ty_ag_3, Try.results16]))
    | ((first | with_reducible refine WP_cond ?_ | with_reducible refine WP_ret ?_ | ((with_reducible refine SQr rfl ?_); intro rest hrest)); simp only [EV2, EVB, stepH, gdOf, modeOf, effD, opD, putD, ofV, ofV1, D.cells, D.lay, D.one, condP, Exit.sel, Exit.blk, RetP, oneOf, resD, putAt, nilD, extrD, fillD, buildD, mapPutD, mapDelD, mapEntD, entPutD, newMapD, moveD, boundD, makeD, appendD, liveD, reduceCtorEq, if_true, if_false, ne_eq, ty_pt_66, ty_sz_68, ty_fd_68_3, ty_sz_3, ty_ag_3, Try.results16])
    | with_reducible refine WP_block ?_
    | ((with_reducible refine WP_exit ?_); simp only [Exit.sel, Exit.blk, reduceIte, eq_self, Nat.reduceEqDiff, Nat.zero_ne_one, Nat.one_ne_zero])
    | ((with_reducible refine hrest _ ?_); clear hrest rest)
    | with_reducible refine WP_reg (fun _ => none) (fun _ => 0) (gamma0 _) ?_
    | with_reducible refine WP_draw (fun _ => none) (fun _ => 0) (gamma0 _) (by kernel_rfl) (by kernel_rfl) ?_
    | ((with_reducible refine ifP (fun _ => ?_) (fun _ => ?_)) <;> try (exfalso; omega))
    | (with_reducible refine And.intro ?_ ?_)
    | ((with_reducible refine (id ?_ : (_ : Nat) ≤ _)); omega))
  refine (find_nil h k).mono fun _ h' ⟨hd, hh⟩ => ?_
  subst hd hh
  repeat' (first
    | with_reducible refine WP_seq ?_
    | ((first | with_reducible refine WP_skip ?_ | with_reducible refine SQ_nil ?_); (first | simp only [Exit.sel, Exit.blk] | simp only [EV2, EVB, stepH, gdOf, modeOf, effD, opD, putD, ofV, ofV1, D.cells, D.lay, D.one, condP, Exit.sel, Exit.blk, RetP, oneOf, resD, putAt, nilD, extrD, fillD, buildD, mapPutD, mapDelD, mapEntD, entPutD, newMapD, moveD, boundD, makeD, appendD, liveD, reduceCtorEq, if_true, if_false, ne_eq, ty_pt_66, ty_sz_68, ty_fd_68_3, ty_sz_3, ty_ag_3, Try.results16]))
    | ((first | with_reducible refine WP_cond ?_ | with_reducible refine WP_ret ?_ | ((with_reducible refine SQr rfl ?_); intro rest hrest)); simp only [EV2, EVB, stepH, gdOf, modeOf, effD, opD, putD, ofV, ofV1, D.cells, D.lay, D.one, condP, Exit.sel, Exit.blk, RetP, oneOf, resD, putAt, nilD, extrD, fillD, buildD, mapPutD, mapDelD, mapEntD, entPutD, newMapD, moveD, boundD, makeD, appendD, liveD, reduceCtorEq, if_true, if_false, ne_eq, ty_pt_66, ty_sz_68, ty_fd_68_3, ty_sz_3, ty_ag_3, Try.results16])
    | with_reducible refine WP_block ?_
    | ((with_reducible refine WP_exit ?_); simp only [Exit.sel, Exit.blk, reduceIte, eq_self, Nat.reduceEqDiff, Nat.zero_ne_one, Nat.one_ne_zero])
    | ((with_reducible refine hrest _ ?_); clear hrest rest)
    | with_reducible refine WP_reg (fun _ => none) (fun _ => 0) (gamma0 _) ?_
    | with_reducible refine WP_draw (fun _ => none) (fun _ => 0) (gamma0 _) (by kernel_rfl) (by kernel_rfl) ?_
    | ((with_reducible refine ifP (fun _ => ?_) (fun _ => ?_)) <;> try (exfalso; omega))
    | (with_reducible refine And.intro ?_ ?_)
    | ((with_reducible refine (id ?_ : (_ : Nat) ≤ _)); omega))
  all_goals rfl
theorem unpin_nil (h : Heap) (k : Key) : CallsA Try.prog 17 [.nilp, kD k] h fun d h' => d = .bool false ∧ h' = h := by
  refine CallsA_body Try.func17 rfl en_17 ?_
  simp only [Try.ntmps17, List.length_cons, List.length_nil, List.replicate]
  repeat' (first
    | with_reducible refine WP_seq ?_
    | ((first | with_reducible refine WP_skip ?_ | with_reducible refine SQ_nil ?_); (first | simp only [Exit.sel, Exit.blk] | simp only [EV2, EVB, stepH, gdOf, modeOf, effD, opD, putD, ofV, ofV1, D.cells, D.lay, D.one, condP, Exit.sel, Exit.blk, RetP, oneOf, resD, putAt, nilD, extrD, fillD, buildD, mapPutD, mapDelD, mapEntD, entPutD, newMapD, moveD, boundD, makeD, appendD, liveD, reduceCtorEq, if_true, if_false, ne_eq, ty_pt_66, ty_sz_68, ty_fd_68_3, ty_sz_3, ty_ag_3, ty_ki_3, Try.results17]))
    | ((first | with_reducible refine WP_cond ?_ | with_reducible refine WP_ret ?_ | ((with_reducible refine SQr rfl ?_); intro rest hrest)); simp only [EV2, EVB, stepH, gdOf, modeOf, effD, opD, putD, ofV, ofV1, D.cells, D.lay, D.one, condP, Exit.sel, Exit.blk, RetP, oneOf, resD, putAt, nilD, extrD, fillD, buildD, mapPutD, mapDelD, mapEntD, entPutD, newMapD, moveD, boundD, makeD, appendD, liveD, reduceCtorEq, if_true, if_false, ne_eq, ty_pt_66, ty_sz_68, ty_fd_68_3, ty_sz_3, ty_ag_3, ty_ki_3, Try.results17])
    | with_reducible refine WP_block ?_
    | ((with_reducible refine WP_exit ?_); simp only [Exit.sel, Exit.blk, reduceIte, eq_self, Nat.reduceEqDiff, Nat.zero_ne_one, Nat.one_ne_zero])
    | ((with_reducible refine hrest _ ?_); clear hrest rest)
    | with_reducible refine WP_reg (fun _ => none) (fun _ => 0) (gamma0 _) ?_
    | with_reducible refine WP_draw (fun _ => none) (fun _ => 0) (gamma0 _) (by kernel_rfl) (by kernel_rfl) ?_
    | ((with_reducible refine ifP (fun _ => ?_) (fun _ => ?_)) <;> try (exfalso; omega))
    | (with_reducible refine And.intro ?_ ?_)
    | ((with_reducible refine (id ?_ : (_ : Nat) ≤ _)); omega))
  refine (find_nil h k).mono fun _ h' ⟨hd, hh⟩ => ?_
  subst hd hh
  repeat' (first
    | with_reducible refine WP_seq ?_
    | ((first | with_reducible refine WP_skip ?_ | with_reducible refine SQ_nil ?_); (first | simp only [Exit.sel, Exit.blk] | simp only [EV2, EVB, stepH, gdOf, modeOf, effD, opD, putD, ofV, ofV1, D.cells, D.lay, D.one, condP, Exit.sel, Exit.blk, RetP, oneOf, resD, putAt, nilD, extrD, fillD, buildD, mapPutD, mapDelD, mapEntD, entPutD, newMapD, moveD, boundD, makeD, appendD, liveD, reduceCtorEq, if_true, if_false, ne_eq, ty_pt_66, ty_sz_68, ty_fd_68_3, ty_sz_3, ty_ag_3, ty_ki_3, Try.results17]))
    | ((first | with_reducible refine WP_cond ?_ | with_reducible refine WP_ret ?_ | ((with_reducible refine SQr rfl ?_); intro rest hrest)); simp only [EV2, EVB, stepH, gdOf, modeOf, effD, opD, putD, ofV, ofV1, D.cells, D.lay, D.one, condP, Exit.sel, Exit.blk, RetP, oneOf, resD, putAt, nilD, extrD, fillD, buildD, mapPutD, mapDelD, mapEntD, entPutD, newMapD, moveD, boundD, makeD, appendD, liveD, reduceCtorEq, if_true, if_false, ne_eq, ty_pt_66, ty_sz_68, ty_fd_68_3, ty_sz_3, ty_ag_3, ty_ki_3, Try.results17])
    | with_reducible refine WP_block ?_
    | ((with_reducible refine WP_exit ?_); simp only [Exit.sel, Exit.blk, reduceIte, eq_self, Nat.reduceEqDiff, Nat.zero_ne_one, Nat.one_ne_zero])
    | ((with_reducible refine hrest _ ?_); clear hrest rest)
    | with_reducible refine WP_reg (fun _ => none) (fun _ => 0) (gamma0 _) ?_
    | with_reducible refine WP_draw (fun _ => none) (fun _ => 0) (gamma0 _) (by kernel_rfl) (by kernel_rfl) ?_
    | ((with_reducible refine ifP (fun _ => ?_) (fun _ => ?_)) <;> try (exfalso; omega))
    | (with_reducible refine And.intro ?_ ?_)
    | ((with_reducible refine (id ?_ : (_ : Nat) ≤ _)); omega))
  all_goals rfl
theorem clean_nil (h : Heap) (k : Key) : CallsA Try.prog 18 [.nilp, kD k] h fun d h' => d = .bool false ∧ h' = h := by
  refine CallsA_body Try.func18 rfl en_18 ?_
  simp only [Try.ntmps18, List.length_cons, List.length_nil, List.replicate]
  repeat' (first
    | with_reducible refine WP_seq ?_
    | ((first | with_reducible refine WP_skip ?_ | with_reducible refine SQ_nil ?_); (first | simp only [Exit.sel, Exit.blk] | simp only [EV2, EVB, stepH, gdOf, modeOf, effD, opD, putD, ofV, ofV1, D.cells, D.lay, D.one, condP, Exit.sel, Exit.blk, RetP, oneOf, resD, putAt, nilD, extrD, fillD, buildD, mapPutD, mapDelD, mapEntD, entPutD, newMapD, moveD, boundD, makeD, appendD, liveD, reduceCtorEq, if_true, if_false, ne_eq, ty_pt_66, ty_sz_68, ty_fd_68_2, ty_sz_4, ty_ag_4, Try.results18]))
    | ((first | with_reducible refine WP_cond ?_ | with_reducible refine WP_ret ?_ | ((with_reducible refine SQr rfl ?_); intro rest hrest)); simp only [EV2, EVB, stepH, gdOf, modeOf, effD, opD, putD, ofV, ofV1, D.cells, D.lay, D.one, condP, Exit.sel, Exit.blk, RetP, oneOf, resD, putAt, nilD, extrD, fillD, buildD, mapPutD, mapDelD, mapEntD, entPutD, newMapD, moveD, boundD, makeD, appendD, liveD, reduceCtorEq, if_true, if_false, ne_eq, ty_pt_66, ty_sz_68, ty_fd_68_2, ty_sz_4, ty_ag_4, Try.results18])
    | with_reducible refine WP_block ?_
    | ((with_reducible refine WP_exit ?_); simp only [Exit.sel, Exit.blk, reduceIte, eq_self, Nat.reduceEqDiff, Nat.zero_ne_one, Nat.one_ne_zero])
    | ((with_reducible refine hrest _ ?_); clear hrest rest)
    | with_reducible refine WP_reg (fun _ => none) (fun _ => 0) (gamma0 _) ?_
    | with_reducible refine WP_draw (fun _ => none) (fun _ => 0) (gamma0 _) (by kernel_rfl) (by kernel_rfl) ?_
    | ((with_reducible refine ifP (fun _ => ?_) (fun _ => ?_)) <;> try (exfalso; omega))
    | (with_reducible refine And.intro ?_ ?_)
    | ((with_reducible refine (id ?_ : (_ : Nat) ≤ _)); omega))
  refine (find_nil h k).mono fun _ h' ⟨hd, hh⟩ => ?_
  subst hd hh
  repeat' (first
    | with_reducible refine WP_seq ?_
    | ((first | with_reducible refine WP_skip ?_ | with_reducible refine SQ_nil ?_); (first | simp only [Exit.sel, Exit.blk] | simp only [EV2, EVB, stepH, gdOf, modeOf, effD, opD, putD, ofV, ofV1, D.cells, D.lay, D.one, condP, Exit.sel, Exit.blk, RetP, oneOf, resD, putAt, nilD, extrD, fillD, buildD, mapPutD, mapDelD, mapEntD, entPutD, newMapD, moveD, boundD, makeD, appendD, liveD, reduceCtorEq, if_true, if_false, ne_eq, ty_pt_66, ty_sz_68, ty_fd_68_2, ty_sz_4, ty_ag_4, Try.results18]))
    | ((first | with_reducible refine WP_cond ?_ | with_reducible refine WP_ret ?_ | ((with_reducible refine SQr rfl ?_); intro rest hrest)); simp only [EV2, EVB, stepH, gdOf, modeOf, effD, opD, putD, ofV, ofV1, D.cells, D.lay, D.one, condP, Exit.sel, Exit.blk, RetP, oneOf, resD, putAt, nilD, extrD, fillD, buildD, mapPutD, mapDelD, mapEntD, entPutD, newMapD, moveD, boundD, makeD, appendD, liveD, reduceCtorEq, if_true, if_false, ne_eq, ty_pt_66, ty_sz_68, ty_fd_68_2, ty_sz_4, ty_ag_4, Try.results18])
    | with_reducible refine WP_block ?_
    | ((with_reducible refine WP_exit ?_); simp only [Exit.sel, Exit.blk, reduceIte, eq_self, Nat.reduceEqDiff, Nat.zero_ne_one, Nat.one_ne_zero])
    | ((with_reducible refine hrest _ ?_); clear hrest rest)
    | with_reducible refine WP_reg (fun _ => none) (fun _ => 0) (gamma0 _) ?_
    | with_reducible refine WP_draw (fun _ => none) (fun _ => 0) (gamma0 _) (by kernel_rfl) (by kernel_rfl) ?_
    | ((with_reducible refine ifP (fun _ => ?_) (fun _ => ?_)) <;> try (exfalso; omega))
    | (with_reducible refine And.intro ?_ ?_)
    | ((with_reducible refine (id ?_ : (_ : Nat) ≤ _)); omega))
  all_goals rfl

/-- Dropped? -/
def dropB (k : Key) (L : List Ent) : Bool := match fnd k L with | none => false | some e => !decide (0 < e.pins)

theorem Mp.del {h' : Heap} {m : Nat} {k : Key} {ids : List Nat} {en : Nat → Ent} {i : Nat} (hk : (ids.map fun i => (en i).key).Nodup) (hl : lk k ids en = some i) {mes : List ME} {clock : Nat} {pr : List (Key × Nat)}
    (h1 : mes.map pk = pr.map pd) (h2 : pr.Perm (ids.map fun i => ((en i).key, i))) (hm : h' m = some (.map (delM (kD k) mes) clock)) : Mp h' m (ids.erase i) en := by
  obtain ⟨hi, he⟩ := lk_some hl
  refine ⟨_, clock, _, hm, delM_pr k mes pr h1, ?_⟩
  have hm : (k, i) ∈ pr := h2.mem_iff.2 (List.mem_map.2 ⟨i, hi, by rw [he]⟩)
  obtain ⟨a, l1, l2, g1, g2, g3, g4⟩ := List.exists_of_eraseP hm (p := fun p => p.1 == k) (by simp)
  have ha : a ∈ pr := by rw [g3]; simp
  obtain ⟨j, hj, rfl⟩ := List.mem_map.1 (h2.mem_iff.1 ha)
  have hji : j = i := key_inj hk hj hi (by rw [he]; simpa using g2)
  subst hji
  rw [g4]
  rw [g3] at h2
  have p1 : ((en j).key, j) :: (l1 ++ l2) |>.Perm (((en j).key, j) :: (ids.erase j).map fun i => ((en i).key, i)) := List.perm_middle.symm.trans (h2.trans ((List.perm_cons_erase hi).map _))
  exact p1.cons_inv

theorem drop_calls {h : Heap} {c : Nat} {F : List Nat} {n : Int} {L : List Ent} (H : CaL h c F n L) (k : Key) :
    CallsA Try.prog 24 [.ptr c 0, kD k] h fun d h' => d = .bool (dropB k L) ∧ ∃ F', CaL h' c F' n (if dropB k L then rem k L else L) ∧ Fr h h' F F' := by
  obtain ⟨m, r, ids, en, H, rfl, rfl⟩ := H
  have hc := H.hc
  rw [dropB, fnd_map]
  refine CallsA_body Try.func24 rfl en_24 ?_
  simp only [Try.ntmps24, List.length_cons, List.length_nil, List.replicate]
  repeat' (first
    | with_reducible refine WP_seq ?_
    | ((first | with_reducible refine WP_skip ?_ | with_reducible refine SQ_nil ?_); (first | simp only [Exit.sel, Exit.blk] | simp only [EV2, EVB, stepH, gdOf, modeOf, effD, opD, putD, ofV, ofV1, D.cells, D.lay, D.one, condP, Exit.sel, Exit.blk, RetP, oneOf, resD, putAt, nilD, extrD, fillD, buildD, mapPutD, mapDelD, mapEntD, entPutD, newMapD, moveD, boundD, makeD, appendD, liveD, reduceCtorEq, if_true, if_false, ne_eq, ty_pt_66, ty_sz_68, ty_fd_68_3, ty_sz_3, ty_ag_3, ty_fd_70_1, ty_sz_65, ty_ag_65, ty_ma_65, ty_ki_3, Try.results24]))
    | ((first | with_reducible refine WP_cond ?_ | with_reducible refine WP_ret ?_ | ((with_reducible refine SQr rfl ?_); intro rest hrest)); simp only [EV2, EVB, stepH, gdOf, modeOf, effD, opD, putD, ofV, ofV1, D.cells, D.lay, D.one, condP, Exit.sel, Exit.blk, RetP, oneOf, resD, putAt, nilD, extrD, fillD, buildD, mapPutD, mapDelD, mapEntD, entPutD, newMapD, moveD, boundD, makeD, appendD, liveD, reduceCtorEq, if_true, if_false, ne_eq, ty_pt_66, ty_sz_68, ty_fd_68_3, ty_sz_3, ty_ag_3, ty_fd_70_1, ty_sz_65, ty_ag_65, ty_ma_65, ty_ki_3, Try.results24])
    | with_reducible refine WP_block ?_
    | ((with_reducible refine WP_exit ?_); simp only [Exit.sel, Exit.blk, reduceIte, eq_self, Nat.reduceEqDiff, Nat.zero_ne_one, Nat.one_ne_zero])
    | ((with_reducible refine hrest _ ?_); clear hrest rest)
    | with_reducible refine WP_reg (fun _ => none) (fun _ => 0) (gamma0 _) ?_
    | with_reducible refine WP_draw (fun _ => none) (fun _ => 0) (gamma0 _) (by kernel_rfl) (by kernel_rfl) ?_
    | ((with_reducible refine ifP (fun _ => ?_) (fun _ => ?_)) <;> try (exfalso; omega))
    | (with_reducible refine And.intro ?_ ?_)
    | ((with_reducible refine (id ?_ : (_ : Nat) ≤ _)); omega))
  refine (find_calls H k).mono fun d h' ⟨hd, hh⟩ => ?_
  subst hd hh
  (with_reducible refine hrest _ ?_); clear hrest rest
  cases hl : lk k ids en with
  | none =>
    simp only [Option.map_none, Option.getD_none]
    repeat' (first
    | with_reducible refine WP_seq ?_
    | ((first | with_reducible refine WP_skip ?_ | with_reducible refine SQ_nil ?_); (first | simp only [Exit.sel, Exit.blk] | simp only [EV2, EVB, stepH, gdOf, modeOf, effD, opD, putD, ofV, ofV1, D.cells, D.lay, D.one, condP, Exit.sel, Exit.blk, RetP, oneOf, resD, putAt, nilD, extrD, fillD, buildD, mapPutD, mapDelD, mapEntD, entPutD, newMapD, moveD, boundD, makeD, appendD, liveD, reduceCtorEq, if_true, if_false, ne_eq, ty_pt_66, ty_sz_68, ty_fd_68_3, ty_sz_3, ty_ag_3, ty_fd_70_1, ty_sz_65, ty_ag_65, ty_ma_65, ty_ki_3, Try.results24]))
    | ((first | with_reducible refine WP_cond ?_ | with_reducible refine WP_ret ?_ | ((with_reducible refine SQr rfl ?_); intro rest hrest)); simp only [EV2, EVB, stepH, gdOf, modeOf, effD, opD, putD, ofV, ofV1, D.cells, D.lay, D.one, condP, Exit.sel, Exit.blk, RetP, oneOf, resD, putAt, nilD, extrD, fillD, buildD, mapPutD, mapDelD, mapEntD, entPutD, newMapD, moveD, boundD, makeD, appendD, liveD, reduceCtorEq, if_true, if_false, ne_eq, ty_pt_66, ty_sz_68, ty_fd_68_3, ty_sz_3, ty_ag_3, ty_fd_70_1, ty_sz_65, ty_ag_65, ty_ma_65, ty_ki_3, Try.results24])
    | with_reducible refine WP_block ?_
    | ((with_reducible refine WP_exit ?_); simp only [Exit.sel, Exit.blk, reduceIte, eq_self, Nat.reduceEqDiff, Nat.zero_ne_one, Nat.one_ne_zero])
    | ((with_reducible refine hrest _ ?_); clear hrest rest)
    | with_reducible refine WP_reg (fun _ => none) (fun _ => 0) (gamma0 _) ?_
    | with_reducible refine WP_draw (fun _ => none) (fun _ => 0) (gamma0 _) (by kernel_rfl) (by kernel_rfl) ?_
    | ((with_reducible refine ifP (fun _ => ?_) (fun _ => ?_)) <;> try (exfalso; omega))
    | (with_reducible refine And.intro ?_ ?_)
    | ((with_reducible refine (id ?_ : (_ : Nat) ≤ _)); omega))
    exact ⟨_, ⟨m, r, ids, en, H, rfl, rfl⟩, .refl _ _⟩
  | some i =>
    simp only [Option.map_some, Option.getD_some]
    obtain ⟨hi, hk⟩ := lk_some hl
    obtain ⟨pv, nx, R⟩ := H.rg
    have hx := R.nd i (by simp [hi])
    obtain ⟨mes, clock, pr, hm, h1, h2⟩ := H.mp
    have hks := fun t ht => keysOk_pr t ht mes pr h1
    have hik := fun t ht => isK t ht k
    obtain ⟨n1, n2, n3⟩ := H.ne
    by_cases hp : 0 < (en i).pins
    · repeat' (first
    | with_reducible refine WP_seq ?_
    | ((first | with_reducible refine WP_skip ?_ | with_reducible refine SQ_nil ?_); (first | simp only [Exit.sel, Exit.blk] | simp only [EV2, EVB, stepH, gdOf, modeOf, effD, opD, putD, ofV, ofV1, D.cells, D.lay, D.one, condP, Exit.sel, Exit.blk, RetP, oneOf, resD, putAt, nilD, extrD, fillD, buildD, mapPutD, mapDelD, mapEntD, entPutD, newMapD, moveD, boundD, makeD, appendD, liveD, reduceCtorEq, if_true, if_false, ne_eq, ty_pt_66, ty_sz_68, ty_fd_68_3, ty_sz_3, ty_ag_3, ty_fd_70_1, ty_sz_65, ty_ag_65, ty_ma_65, ty_ki_3, Try.results24, hx, nodeC, kC, vD, hp]))
    | ((first | with_reducible refine WP_cond ?_ | with_reducible refine WP_ret ?_ | ((with_reducible refine SQr rfl ?_); intro rest hrest)); simp only [EV2, EVB, stepH, gdOf, modeOf, effD, opD, putD, ofV, ofV1, D.cells, D.lay, D.one, condP, Exit.sel, Exit.blk, RetP, oneOf, resD, putAt, nilD, extrD, fillD, buildD, mapPutD, mapDelD, mapEntD, entPutD, newMapD, moveD, boundD, makeD, appendD, liveD, reduceCtorEq, if_true, if_false, ne_eq, ty_pt_66, ty_sz_68, ty_fd_68_3, ty_sz_3, ty_ag_3, ty_fd_70_1, ty_sz_65, ty_ag_65, ty_ma_65, ty_ki_3, Try.results24, hx, nodeC, kC, vD, hp])
    | with_reducible refine WP_block ?_
    | ((with_reducible refine WP_exit ?_); simp only [Exit.sel, Exit.blk, reduceIte, eq_self, Nat.reduceEqDiff, Nat.zero_ne_one, Nat.one_ne_zero])
    | ((with_reducible refine hrest _ ?_); clear hrest rest)
    | with_reducible refine WP_reg (fun _ => none) (fun _ => 0) (gamma0 _) ?_
    | with_reducible refine WP_draw (fun _ => none) (fun _ => 0) (gamma0 _) (by kernel_rfl) (by kernel_rfl) ?_
    | ((with_reducible refine ifP (fun _ => ?_) (fun _ => ?_)) <;> try (exfalso; omega))
    | (with_reducible refine And.intro ?_ ?_)
    | ((with_reducible refine (id ?_ : (_ : Nat) ≤ _)); omega))
      · simp [hp]
      · exact ⟨_, ⟨m, r, ids, en, H, rfl, rfl⟩, .refl _ _⟩
    · repeat' (first
    | with_reducible refine WP_seq ?_
    | ((first | with_reducible refine WP_skip ?_ | with_reducible refine SQ_nil ?_); (first | simp only [Exit.sel, Exit.blk] | simp only [EV2, EVB, stepH, gdOf, modeOf, effD, opD, putD, ofV, ofV1, D.cells, D.lay, D.one, condP, Exit.sel, Exit.blk, RetP, oneOf, resD, putAt, nilD, extrD, fillD, buildD, mapPutD, mapDelD, mapEntD, entPutD, newMapD, moveD, boundD, makeD, appendD, liveD, reduceCtorEq, if_true, if_false, ne_eq, ty_pt_66, ty_sz_68, ty_fd_68_3, ty_sz_3, ty_ag_3, ty_fd_70_1, ty_sz_65, ty_ag_65, ty_ma_65, ty_ki_3, Try.results24, hx, nodeC, kC, vD, hp]))
    | ((first | with_reducible refine WP_cond ?_ | with_reducible refine WP_ret ?_ | ((with_reducible refine SQr rfl ?_); intro rest hrest)); simp only [EV2, EVB, stepH, gdOf, modeOf, effD, opD, putD, ofV, ofV1, D.cells, D.lay, D.one, condP, Exit.sel, Exit.blk, RetP, oneOf, resD, putAt, nilD, extrD, fillD, buildD, mapPutD, mapDelD, mapEntD, entPutD, newMapD, moveD, boundD, makeD, appendD, liveD, reduceCtorEq, if_true, if_false, ne_eq, ty_pt_66, ty_sz_68, ty_fd_68_3, ty_sz_3, ty_ag_3, ty_fd_70_1, ty_sz_65, ty_ag_65, ty_ma_65, ty_ki_3, Try.results24, hx, nodeC, kC, vD, hp])
    | with_reducible refine WP_block ?_
    | ((with_reducible refine WP_exit ?_); simp only [Exit.sel, Exit.blk, reduceIte, eq_self, Nat.reduceEqDiff, Nat.zero_ne_one, Nat.one_ne_zero])
    | ((with_reducible refine hrest _ ?_); clear hrest rest)
    | with_reducible refine WP_reg (fun _ => none) (fun _ => 0) (gamma0 _) ?_
    | with_reducible refine WP_draw (fun _ => none) (fun _ => 0) (gamma0 _) (by kernel_rfl) (by kernel_rfl) ?_
    | ((with_reducible refine ifP (fun _ => ?_) (fun _ => ?_)) <;> try (exfalso; omega))
    | (with_reducible refine And.intro ?_ ?_)
    | ((with_reducible refine (id ?_ : (_ : Nat) ≤ _)); omega))
      obtain ⟨l1, l2, l3, l4⟩ := R.links hi
      refine (out_calls _ (r :: ids) en pv nx i R.nd (by simp [hi]) l1 l2 l3 l4).mono fun _ h3 ⟨g1, g2⟩ => ?_
      have hc3 := (g2 c n1).trans hc
      have hm3 := (g2 m n2).trans hm
      repeat' (first
    | with_reducible refine WP_seq ?_
    | ((first | with_reducible refine WP_skip ?_ | with_reducible refine SQ_nil ?_); (first | simp only [Exit.sel, Exit.blk] | simp only [EV2, EVB, stepH, gdOf, modeOf, effD, opD, putD, ofV, ofV1, D.cells, D.lay, D.one, condP, Exit.sel, Exit.blk, RetP, oneOf, resD, putAt, nilD, extrD, fillD, buildD, mapPutD, mapDelD, mapEntD, entPutD, newMapD, moveD, boundD, makeD, appendD, liveD, reduceCtorEq, if_true, if_false, ne_eq, ty_pt_66, ty_sz_68, ty_fd_68_3, ty_sz_3, ty_ag_3, ty_fd_70_1, ty_sz_65, ty_ag_65, ty_ma_65, ty_ki_3, Try.results24, hc3, hm3, hks, hik]))
    | ((first | with_reducible refine WP_cond ?_ | with_reducible refine WP_ret ?_ | ((with_reducible refine SQr rfl ?_); intro rest hrest)); simp only [EV2, EVB, stepH, gdOf, modeOf, effD, opD, putD, ofV, ofV1, D.cells, D.lay, D.one, condP, Exit.sel, Exit.blk, RetP, oneOf, resD, putAt, nilD, extrD, fillD, buildD, mapPutD, mapDelD, mapEntD, entPutD, newMapD, moveD, boundD, makeD, appendD, liveD, reduceCtorEq, if_true, if_false, ne_eq, ty_pt_66, ty_sz_68, ty_fd_68_3, ty_sz_3, ty_ag_3, ty_fd_70_1, ty_sz_65, ty_ag_65, ty_ma_65, ty_ki_3, Try.results24, hc3, hm3, hks, hik])
    | with_reducible refine WP_block ?_
    | ((with_reducible refine WP_exit ?_); simp only [Exit.sel, Exit.blk, reduceIte, eq_self, Nat.reduceEqDiff, Nat.zero_ne_one, Nat.one_ne_zero])
    | ((with_reducible refine hrest _ ?_); clear hrest rest)
    | with_reducible refine WP_reg (fun _ => none) (fun _ => 0) (gamma0 _) ?_
    | with_reducible refine WP_draw (fun _ => none) (fun _ => 0) (gamma0 _) (by kernel_rfl) (by kernel_rfl) ?_
    | ((with_reducible refine ifP (fun _ => ?_) (fun _ => ?_)) <;> try (exfalso; omega))
    | (with_reducible refine And.intro ?_ ?_)
    | ((with_reducible refine (id ?_ : (_ : Nat) ≤ _)); omega))
      · simp [hp]
      have o := R.out hi g1
      have hmr : ∀ y ∈ r :: ids, y ≠ m := fun y hy e => n2 (e ▸ hy)
      have hsub : ∀ y ∈ r :: ids.erase i, y ∈ r :: ids := fun y hy => by
        simp only [List.mem_cons] at hy ⊢
        exact hy.imp id List.mem_of_mem_erase
      refine ⟨_, ⟨m, r, ids.erase i, en, ⟨by rw [Heap.upd_ne _ _ n3]; exact hc3, Mp.del H.ky hl h1 h2 (by rw [Heap.upd_same]), ⟨_, _, fun y hy => ?_, o.1.ch, o.1.un⟩, ?_⟩, rfl, ?_⟩, ⟨fun j hj _ => ?_, fun j hj => .inl ?_⟩⟩
      · rw [Heap.upd_ne _ _ (hmr y (hsub y hy))]; exact o.1.nd y hy
      · exact (List.nodup_cons.1 (((List.perm_cons_erase hi).map fun i => (en i).key).nodup_iff.1 H.ky)).2
      · exact rem_map hl
      · rw [Heap.upd_ne _ _ (fun e => hj (by simp [e]))]
        exact g2 j (fun e => hj (by simp only [List.mem_cons] at e ⊢; exact .inr (.inr e)))
      · simp only [List.mem_cons] at hj ⊢
        rcases hj with h | h | h | h
        · exact .inl h
        · exact .inr (.inl h)
        · exact .inr (.inr (.inl h))
        · exact .inr (.inr (.inr (List.mem_of_mem_erase h)))

def pinB (k : Key) (L : List Ent) : Bool := match fnd k L with | none => false | some e => true

theorem pin_calls {h : Heap} {c : Nat} {F : List Nat} {n : Int} {L : List Ent} (H : CaL h c F n L) (hb : ∀ e ∈ L, 0 ≤ e.pins ∧ e.pins ≤ 1000000000) (k : Key) :
    CallsA Try.prog 16 [.ptr c 0, kD k] h fun d h' => d = .bool (pinB k L) ∧ CaL h' c F n (if pinB k L then upk k (fun e => { e with pins := e.pins + 1 }) L else L) ∧ Fr h h' F F := by
  obtain ⟨m, r, ids, en, H, rfl, rfl⟩ := H
  have hc := H.hc
  rw [pinB, fnd_map]
  refine CallsA_body Try.func16 rfl en_16 ?_
  simp only [Try.ntmps16, List.length_cons, List.length_nil, List.replicate]
  repeat' (first
    | with_reducible refine WP_seq ?_
    | ((first | with_reducible refine WP_skip ?_ | with_reducible refine SQ_nil ?_); (first | simp only [Exit.sel, Exit.blk] | simp only [EV2, EVB, stepH, gdOf, modeOf, effD, opD, putD, ofV, ofV1, D.cells, D.lay, D.one, condP, Exit.sel, Exit.blk, RetP, oneOf, resD, putAt, nilD, extrD, fillD, buildD, mapPutD, mapDelD, mapEntD, entPutD, newMapD, moveD, boundD, makeD, appendD, liveD, reduceCtorEq, if_true, if_false, ne_eq, ty_pt_66, ty_sz_68, ty_fd_68_3, ty_sz_3, ty_ag_3, Try.results16]))
    | ((first | with_reducible refine WP_cond ?_ | with_reducible refine WP_ret ?_ | ((with_reducible refine SQr rfl ?_); intro rest hrest)); simp only [EV2, EVB, stepH, gdOf, modeOf, effD, opD, putD, ofV, ofV1, D.cells, D.lay, D.one, condP, Exit.sel, Exit.blk, RetP, oneOf, resD, putAt, nilD, extrD, fillD, buildD, mapPutD, mapDelD, mapEntD, entPutD, newMapD, moveD, boundD, makeD, appendD, liveD, reduceCtorEq, if_true, if_false, ne_eq, ty_pt_66, ty_sz_68, ty_fd_68_3, ty_sz_3, ty_ag_3, Try.results16])
    | with_reducible refine WP_block ?_
    | ((with_reducible refine WP_exit ?_); simp only [Exit.sel, Exit.blk, reduceIte, eq_self, Nat.reduceEqDiff, Nat.zero_ne_one, Nat.one_ne_zero])
    | ((with_reducible refine hrest _ ?_); clear hrest rest)
    | with_reducible refine WP_reg (fun _ => none) (fun _ => 0) (gamma0 _) ?_
    | with_reducible refine WP_draw (fun _ => none) (fun _ => 0) (gamma0 _) (by kernel_rfl) (by kernel_rfl) ?_
    | ((with_reducible refine ifP (fun _ => ?_) (fun _ => ?_)) <;> try (exfalso; omega))
    | (with_reducible refine And.intro ?_ ?_)
    | ((with_reducible refine (id ?_ : (_ : Nat) ≤ _)); omega))
  refine (find_calls H k).mono fun d h' ⟨hd, hh⟩ => ?_
  subst hd hh
  (with_reducible refine hrest _ ?_); clear hrest rest
  cases hl : lk k ids en with
  | none =>
    simp only [Option.map_none, Option.getD_none]
    repeat' (first
    | with_reducible refine WP_seq ?_
    | ((first | with_reducible refine WP_skip ?_ | with_reducible refine SQ_nil ?_); (first | simp only [Exit.sel, Exit.blk] | simp only [EV2, EVB, stepH, gdOf, modeOf, effD, opD, putD, ofV, ofV1, D.cells, D.lay, D.one, condP, Exit.sel, Exit.blk, RetP, oneOf, resD, putAt, nilD, extrD, fillD, buildD, mapPutD, mapDelD, mapEntD, entPutD, newMapD, moveD, boundD, makeD, appendD, liveD, reduceCtorEq, if_true, if_false, ne_eq, ty_pt_66, ty_sz_68, ty_fd_68_3, ty_sz_3, ty_ag_3, Try.results16]))
    | ((first | with_reducible refine WP_cond ?_ | with_reducible refine WP_ret ?_ | ((with_reducible refine SQr rfl ?_); intro rest hrest)); simp only [EV2, EVB, stepH, gdOf, modeOf, effD, opD, putD, ofV, ofV1, D.cells, D.lay, D.one, condP, Exit.sel, Exit.blk, RetP, oneOf, resD, putAt, nilD, extrD, fillD, buildD, mapPutD, mapDelD, mapEntD, entPutD, newMapD, moveD, boundD, makeD, appendD, liveD, reduceCtorEq, if_true, if_false, ne_eq, ty_pt_66, ty_sz_68, ty_fd_68_3, ty_sz_3, ty_ag_3, Try.results16])
    | with_reducible refine WP_block ?_
    | ((with_reducible refine WP_exit ?_); simp only [Exit.sel, Exit.blk, reduceIte, eq_self, Nat.reduceEqDiff, Nat.zero_ne_one, Nat.one_ne_zero])
    | ((with_reducible refine hrest _ ?_); clear hrest rest)
    | with_reducible refine WP_reg (fun _ => none) (fun _ => 0) (gamma0 _) ?_
    | with_reducible refine WP_draw (fun _ => none) (fun _ => 0) (gamma0 _) (by kernel_rfl) (by kernel_rfl) ?_
    | ((with_reducible refine ifP (fun _ => ?_) (fun _ => ?_)) <;> try (exfalso; omega))
    | (with_reducible refine And.intro ?_ ?_)
    | ((with_reducible refine (id ?_ : (_ : Nat) ≤ _)); omega))
    · exact ⟨m, r, ids, en, H, rfl, rfl⟩
    · exact .refl _ _
  | some i =>
    simp only [Option.map_some, Option.getD_some]
    obtain ⟨hi, hk⟩ := lk_some hl
    obtain ⟨pv, nx, R⟩ := H.rg
    have hx := R.nd i (by simp [hi])
    obtain ⟨hb1, hb2⟩ := hb (en i) (List.mem_map.2 ⟨i, hi, rfl⟩)
    have hw : IntKind.i64.wrap ((en i).pins + 1) = (en i).pins + 1 := wrap64 (by omega) (by omega)
    · repeat' (first
    | with_reducible refine WP_seq ?_
    | ((first | with_reducible refine WP_skip ?_ | with_reducible refine SQ_nil ?_); (first | simp only [Exit.sel, Exit.blk] | simp only [EV2, EVB, stepH, gdOf, modeOf, effD, opD, putD, ofV, ofV1, D.cells, D.lay, D.one, condP, Exit.sel, Exit.blk, RetP, oneOf, resD, putAt, nilD, extrD, fillD, buildD, mapPutD, mapDelD, mapEntD, entPutD, newMapD, moveD, boundD, makeD, appendD, liveD, reduceCtorEq, if_true, if_false, ne_eq, ty_pt_66, ty_sz_68, ty_fd_68_3, ty_sz_3, ty_ag_3, Try.results16, hx, nodeC, kC, vD, hw]))
    | ((first | with_reducible refine WP_cond ?_ | with_reducible refine WP_ret ?_ | ((with_reducible refine SQr rfl ?_); intro rest hrest)); simp only [EV2, EVB, stepH, gdOf, modeOf, effD, opD, putD, ofV, ofV1, D.cells, D.lay, D.one, condP, Exit.sel, Exit.blk, RetP, oneOf, resD, putAt, nilD, extrD, fillD, buildD, mapPutD, mapDelD, mapEntD, entPutD, newMapD, moveD, boundD, makeD, appendD, liveD, reduceCtorEq, if_true, if_false, ne_eq, ty_pt_66, ty_sz_68, ty_fd_68_3, ty_sz_3, ty_ag_3, Try.results16, hx, nodeC, kC, vD, hw])
    | with_reducible refine WP_block ?_
    | ((with_reducible refine WP_exit ?_); simp only [Exit.sel, Exit.blk, reduceIte, eq_self, Nat.reduceEqDiff, Nat.zero_ne_one, Nat.one_ne_zero])
    | ((with_reducible refine hrest _ ?_); clear hrest rest)
    | with_reducible refine WP_reg (fun _ => none) (fun _ => 0) (gamma0 _) ?_
    | with_reducible refine WP_draw (fun _ => none) (fun _ => 0) (gamma0 _) (by kernel_rfl) (by kernel_rfl) ?_
    | ((with_reducible refine ifP (fun _ => ?_) (fun _ => ?_)) <;> try (exfalso; omega))
    | (with_reducible refine And.intro ?_ ?_)
    | ((with_reducible refine (id ?_ : (_ : Nat) ≤ _)); omega))
      · refine ⟨m, r, ids, _, H.set hi (e := (fun e : Ent => { e with pins := e.pins + 1 }) (en i)) rfl R (fun j hj => Heap.upd_ne _ _ hj) (by rw [Heap.upd_same]; rfl), rfl, ?_⟩
        exact upk_map _ hl H.ky
      · exact ⟨fun j hj _ => Heap.upd_ne _ _ (fun e => hj (by simp [e, hi])), fun j hj => .inl hj⟩

def unpinB (k : Key) (L : List Ent) : Bool := match fnd k L with | none => false | some e => !decide (e.pins = 0)

theorem unpin_calls {h : Heap} {c : Nat} {F : List Nat} {n : Int} {L : List Ent} (H : CaL h c F n L) (hb : ∀ e ∈ L, 0 ≤ e.pins ∧ e.pins ≤ 1000000000) (k : Key) :
    CallsA Try.prog 17 [.ptr c 0, kD k] h fun d h' => d = .bool (unpinB k L) ∧ CaL h' c F n (if unpinB k L then upk k (fun e => { e with pins := e.pins - 1 }) L else L) ∧ Fr h h' F F := by
  obtain ⟨m, r, ids, en, H, rfl, rfl⟩ := H
  have hc := H.hc
  rw [unpinB, fnd_map]
  refine CallsA_body Try.func17 rfl en_17 ?_
  simp only [Try.ntmps17, List.length_cons, List.length_nil, List.replicate]
  repeat' (first
    | with_reducible refine WP_seq ?_
    | ((first | with_reducible refine WP_skip ?_ | with_reducible refine SQ_nil ?_); (first | simp only [Exit.sel, Exit.blk] | simp only [EV2, EVB, stepH, gdOf, modeOf, effD, opD, putD, ofV, ofV1, D.cells, D.lay, D.one, condP, Exit.sel, Exit.blk, RetP, oneOf, resD, putAt, nilD, extrD, fillD, buildD, mapPutD, mapDelD, mapEntD, entPutD, newMapD, moveD, boundD, makeD, appendD, liveD, reduceCtorEq, if_true, if_false, ne_eq, ty_pt_66, ty_sz_68, ty_fd_68_3, ty_sz_3, ty_ag_3, ty_ki_3, Try.results17]))
    | ((first | with_reducible refine WP_cond ?_ | with_reducible refine WP_ret ?_ | ((with_reducible refine SQr rfl ?_); intro rest hrest)); simp only [EV2, EVB, stepH, gdOf, modeOf, effD, opD, putD, ofV, ofV1, D.cells, D.lay, D.one, condP, Exit.sel, Exit.blk, RetP, oneOf, resD, putAt, nilD, extrD, fillD, buildD, mapPutD, mapDelD, mapEntD, entPutD, newMapD, moveD, boundD, makeD, appendD, liveD, reduceCtorEq, if_true, if_false, ne_eq, ty_pt_66, ty_sz_68, ty_fd_68_3, ty_sz_3, ty_ag_3, ty_ki_3, Try.results17])
    | with_reducible refine WP_block ?_
    | ((with_reducible refine WP_exit ?_); simp only [Exit.sel, Exit.blk, reduceIte, eq_self, Nat.reduceEqDiff, Nat.zero_ne_one, Nat.one_ne_zero])
    | ((with_reducible refine hrest _ ?_); clear hrest rest)
    | with_reducible refine WP_reg (fun _ => none) (fun _ => 0) (gamma0 _) ?_
    | with_reducible refine WP_draw (fun _ => none) (fun _ => 0) (gamma0 _) (by kernel_rfl) (by kernel_rfl) ?_
    | ((with_reducible refine ifP (fun _ => ?_) (fun _ => ?_)) <;> try (exfalso; omega))
    | (with_reducible refine And.intro ?_ ?_)
    | ((with_reducible refine (id ?_ : (_ : Nat) ≤ _)); omega))
  refine (find_calls H k).mono fun d h' ⟨hd, hh⟩ => ?_
  subst hd hh
  (with_reducible refine hrest _ ?_); clear hrest rest
  cases hl : lk k ids en with
  | none =>
    simp only [Option.map_none, Option.getD_none]
    repeat' (first
    | with_reducible refine WP_seq ?_
    | ((first | with_reducible refine WP_skip ?_ | with_reducible refine SQ_nil ?_); (first | simp only [Exit.sel, Exit.blk] | simp only [EV2, EVB, stepH, gdOf, modeOf, effD, opD, putD, ofV, ofV1, D.cells, D.lay, D.one, condP, Exit.sel, Exit.blk, RetP, oneOf, resD, putAt, nilD, extrD, fillD, buildD, mapPutD, mapDelD, mapEntD, entPutD, newMapD, moveD, boundD, makeD, appendD, liveD, reduceCtorEq, if_true, if_false, ne_eq, ty_pt_66, ty_sz_68, ty_fd_68_3, ty_sz_3, ty_ag_3, ty_ki_3, Try.results17]))
    | ((first | with_reducible refine WP_cond ?_ | with_reducible refine WP_ret ?_ | ((with_reducible refine SQr rfl ?_); intro rest hrest)); simp only [EV2, EVB, stepH, gdOf, modeOf, effD, opD, putD, ofV, ofV1, D.cells, D.lay, D.one, condP, Exit.sel, Exit.blk, RetP, oneOf, resD, putAt, nilD, extrD, fillD, buildD, mapPutD, mapDelD, mapEntD, entPutD, newMapD, moveD, boundD, makeD, appendD, liveD, reduceCtorEq, if_true, if_false, ne_eq, ty_pt_66, ty_sz_68, ty_fd_68_3, ty_sz_3, ty_ag_3, ty_ki_3, Try.results17])
    | with_reducible refine WP_block ?_
    | ((with_reducible refine WP_exit ?_); simp only [Exit.sel, Exit.blk, reduceIte, eq_self, Nat.reduceEqDiff, Nat.zero_ne_one, Nat.one_ne_zero])
    | ((with_reducible refine hrest _ ?_); clear hrest rest)
    | with_reducible refine WP_reg (fun _ => none) (fun _ => 0) (gamma0 _) ?_
    | with_reducible refine WP_draw (fun _ => none) (fun _ => 0) (gamma0 _) (by kernel_rfl) (by kernel_rfl) ?_
    | ((with_reducible refine ifP (fun _ => ?_) (fun _ => ?_)) <;> try (exfalso; omega))
    | (with_reducible refine And.intro ?_ ?_)
    | ((with_reducible refine (id ?_ : (_ : Nat) ≤ _)); omega))
    · exact ⟨m, r, ids, en, H, rfl, rfl⟩
    · exact .refl _ _
  | some i =>
    simp only [Option.map_some, Option.getD_some]
    obtain ⟨hi, hk⟩ := lk_some hl
    obtain ⟨pv, nx, R⟩ := H.rg
    have hx := R.nd i (by simp [hi])
    obtain ⟨hb1, hb2⟩ := hb (en i) (List.mem_map.2 ⟨i, hi, rfl⟩)
    have hw : (en i).pins ≠ 0 → IntKind.i64.wrap ((en i).pins - 1) = (en i).pins - 1 := fun _ => wrap64 (by omega) (by omega)
    by_cases hp : (en i).pins = 0
    · repeat' (first
    | with_reducible refine WP_seq ?_
    | ((first | with_reducible refine WP_skip ?_ | with_reducible refine SQ_nil ?_); (first | simp only [Exit.sel, Exit.blk] | simp only [EV2, EVB, stepH, gdOf, modeOf, effD, opD, putD, ofV, ofV1, D.cells, D.lay, D.one, condP, Exit.sel, Exit.blk, RetP, oneOf, resD, putAt, nilD, extrD, fillD, buildD, mapPutD, mapDelD, mapEntD, entPutD, newMapD, moveD, boundD, makeD, appendD, liveD, reduceCtorEq, if_true, if_false, ne_eq, ty_pt_66, ty_sz_68, ty_fd_68_3, ty_sz_3, ty_ag_3, ty_ki_3, Try.results17, hx, nodeC, kC, vD, hp]))
    | ((first | with_reducible refine WP_cond ?_ | with_reducible refine WP_ret ?_ | ((with_reducible refine SQr rfl ?_); intro rest hrest)); simp only [EV2, EVB, stepH, gdOf, modeOf, effD, opD, putD, ofV, ofV1, D.cells, D.lay, D.one, condP, Exit.sel, Exit.blk, RetP, oneOf, resD, putAt, nilD, extrD, fillD, buildD, mapPutD, mapDelD, mapEntD, entPutD, newMapD, moveD, boundD, makeD, appendD, liveD, reduceCtorEq, if_true, if_false, ne_eq, ty_pt_66, ty_sz_68, ty_fd_68_3, ty_sz_3, ty_ag_3, ty_ki_3, Try.results17, hx, nodeC, kC, vD, hp])
    | with_reducible refine WP_block ?_
    | ((with_reducible refine WP_exit ?_); simp only [Exit.sel, Exit.blk, reduceIte, eq_self, Nat.reduceEqDiff, Nat.zero_ne_one, Nat.one_ne_zero])
    | ((with_reducible refine hrest _ ?_); clear hrest rest)
    | with_reducible refine WP_reg (fun _ => none) (fun _ => 0) (gamma0 _) ?_
    | with_reducible refine WP_draw (fun _ => none) (fun _ => 0) (gamma0 _) (by kernel_rfl) (by kernel_rfl) ?_
    | ((with_reducible refine ifP (fun _ => ?_) (fun _ => ?_)) <;> try (exfalso; omega))
    | (with_reducible refine And.intro ?_ ?_)
    | ((with_reducible refine (id ?_ : (_ : Nat) ≤ _)); omega))
      · simp [hp]
      · exact ⟨m, r, ids, en, H, rfl, rfl⟩
      · exact .refl _ _
    · have hw := hw hp
      repeat' (first
    | with_reducible refine WP_seq ?_
    | ((first | with_reducible refine WP_skip ?_ | with_reducible refine SQ_nil ?_); (first | simp only [Exit.sel, Exit.blk] | simp only [EV2, EVB, stepH, gdOf, modeOf, effD, opD, putD, ofV, ofV1, D.cells, D.lay, D.one, condP, Exit.sel, Exit.blk, RetP, oneOf, resD, putAt, nilD, extrD, fillD, buildD, mapPutD, mapDelD, mapEntD, entPutD, newMapD, moveD, boundD, makeD, appendD, liveD, reduceCtorEq, if_true, if_false, ne_eq, ty_pt_66, ty_sz_68, ty_fd_68_3, ty_sz_3, ty_ag_3, ty_ki_3, Try.results17, hx, nodeC, kC, vD, hp, hw]))
    | ((first | with_reducible refine WP_cond ?_ | with_reducible refine WP_ret ?_ | ((with_reducible refine SQr rfl ?_); intro rest hrest)); simp only [EV2, EVB, stepH, gdOf, modeOf, effD, opD, putD, ofV, ofV1, D.cells, D.lay, D.one, condP, Exit.sel, Exit.blk, RetP, oneOf, resD, putAt, nilD, extrD, fillD, buildD, mapPutD, mapDelD, mapEntD, entPutD, newMapD, moveD, boundD, makeD, appendD, liveD, reduceCtorEq, if_true, if_false, ne_eq, ty_pt_66, ty_sz_68, ty_fd_68_3, ty_sz_3, ty_ag_3, ty_ki_3, Try.results17, hx, nodeC, kC, vD, hp, hw])
    | with_reducible refine WP_block ?_
    | ((with_reducible refine WP_exit ?_); simp only [Exit.sel, Exit.blk, reduceIte, eq_self, Nat.reduceEqDiff, Nat.zero_ne_one, Nat.one_ne_zero])
    | ((with_reducible refine hrest _ ?_); clear hrest rest)
    | with_reducible refine WP_reg (fun _ => none) (fun _ => 0) (gamma0 _) ?_
    | with_reducible refine WP_draw (fun _ => none) (fun _ => 0) (gamma0 _) (by kernel_rfl) (by kernel_rfl) ?_
    | ((with_reducible refine ifP (fun _ => ?_) (fun _ => ?_)) <;> try (exfalso; omega))
    | (with_reducible refine And.intro ?_ ?_)
    | ((with_reducible refine (id ?_ : (_ : Nat) ≤ _)); omega))
      · simp [hp]
      · refine ⟨m, r, ids, _, H.set hi (e := (fun e : Ent => { e with pins := e.pins - 1 }) (en i)) rfl R (fun j hj => Heap.upd_ne _ _ hj) (by rw [Heap.upd_same]; rfl), rfl, ?_⟩
        exact upk_map _ hl H.ky
      · exact ⟨fun j hj _ => Heap.upd_ne _ _ (fun e => hj (by simp [e, hi])), fun j hj => .inl hj⟩

def cleanB (k : Key) (L : List Ent) : Bool := match fnd k L with | none => false | some e => e.dirty

theorem clean_calls {h : Heap} {c : Nat} {F : List Nat} {n : Int} {L : List Ent} (H : CaL h c F n L) (k : Key) :
    CallsA Try.prog 18 [.ptr c 0, kD k] h fun d h' => d = .bool (cleanB k L) ∧ CaL h' c F n (if cleanB k L then upk k (fun e => { e with dirty := false }) L else L) ∧ Fr h h' F F := by
  obtain ⟨m, r, ids, en, H, rfl, rfl⟩ := H
  have hc := H.hc
  rw [cleanB, fnd_map]
  refine CallsA_body Try.func18 rfl en_18 ?_
  simp only [Try.ntmps18, List.length_cons, List.length_nil, List.replicate]
  repeat' (first
    | with_reducible refine WP_seq ?_
    | ((first | with_reducible refine WP_skip ?_ | with_reducible refine SQ_nil ?_); (first | simp only [Exit.sel, Exit.blk] | simp only [EV2, EVB, stepH, gdOf, modeOf, effD, opD, putD, ofV, ofV1, D.cells, D.lay, D.one, condP, Exit.sel, Exit.blk, RetP, oneOf, resD, putAt, nilD, extrD, fillD, buildD, mapPutD, mapDelD, mapEntD, entPutD, newMapD, moveD, boundD, makeD, appendD, liveD, reduceCtorEq, if_true, if_false, ne_eq, ty_pt_66, ty_sz_68, ty_fd_68_2, ty_sz_4, ty_ag_4, Try.results18]))
    | ((first | with_reducible refine WP_cond ?_ | with_reducible refine WP_ret ?_ | ((with_reducible refine SQr rfl ?_); intro rest hrest)); simp only [EV2, EVB, stepH, gdOf, modeOf, effD, opD, putD, ofV, ofV1, D.cells, D.lay, D.one, condP, Exit.sel, Exit.blk, RetP, oneOf, resD, putAt, nilD, extrD, fillD, buildD, mapPutD, mapDelD, mapEntD, entPutD, newMapD, moveD, boundD, makeD, appendD, liveD, reduceCtorEq, if_true, if_false, ne_eq, ty_pt_66, ty_sz_68, ty_fd_68_2, ty_sz_4, ty_ag_4, Try.results18])
    | with_reducible refine WP_block ?_
    | ((with_reducible refine WP_exit ?_); simp only [Exit.sel, Exit.blk, reduceIte, eq_self, Nat.reduceEqDiff, Nat.zero_ne_one, Nat.one_ne_zero])
    | ((with_reducible refine hrest _ ?_); clear hrest rest)
    | with_reducible refine WP_reg (fun _ => none) (fun _ => 0) (gamma0 _) ?_
    | with_reducible refine WP_draw (fun _ => none) (fun _ => 0) (gamma0 _) (by kernel_rfl) (by kernel_rfl) ?_
    | ((with_reducible refine ifP (fun _ => ?_) (fun _ => ?_)) <;> try (exfalso; omega))
    | (with_reducible refine And.intro ?_ ?_)
    | ((with_reducible refine (id ?_ : (_ : Nat) ≤ _)); omega))
  refine (find_calls H k).mono fun d h' ⟨hd, hh⟩ => ?_
  subst hd hh
  (with_reducible refine hrest _ ?_); clear hrest rest
  cases hl : lk k ids en with
  | none =>
    simp only [Option.map_none, Option.getD_none]
    repeat' (first
    | with_reducible refine WP_seq ?_
    | ((first | with_reducible refine WP_skip ?_ | with_reducible refine SQ_nil ?_); (first | simp only [Exit.sel, Exit.blk] | simp only [EV2, EVB, stepH, gdOf, modeOf, effD, opD, putD, ofV, ofV1, D.cells, D.lay, D.one, condP, Exit.sel, Exit.blk, RetP, oneOf, resD, putAt, nilD, extrD, fillD, buildD, mapPutD, mapDelD, mapEntD, entPutD, newMapD, moveD, boundD, makeD, appendD, liveD, reduceCtorEq, if_true, if_false, ne_eq, ty_pt_66, ty_sz_68, ty_fd_68_2, ty_sz_4, ty_ag_4, Try.results18]))
    | ((first | with_reducible refine WP_cond ?_ | with_reducible refine WP_ret ?_ | ((with_reducible refine SQr rfl ?_); intro rest hrest)); simp only [EV2, EVB, stepH, gdOf, modeOf, effD, opD, putD, ofV, ofV1, D.cells, D.lay, D.one, condP, Exit.sel, Exit.blk, RetP, oneOf, resD, putAt, nilD, extrD, fillD, buildD, mapPutD, mapDelD, mapEntD, entPutD, newMapD, moveD, boundD, makeD, appendD, liveD, reduceCtorEq, if_true, if_false, ne_eq, ty_pt_66, ty_sz_68, ty_fd_68_2, ty_sz_4, ty_ag_4, Try.results18])
    | with_reducible refine WP_block ?_
    | ((with_reducible refine WP_exit ?_); simp only [Exit.sel, Exit.blk, reduceIte, eq_self, Nat.reduceEqDiff, Nat.zero_ne_one, Nat.one_ne_zero])
    | ((with_reducible refine hrest _ ?_); clear hrest rest)
    | with_reducible refine WP_reg (fun _ => none) (fun _ => 0) (gamma0 _) ?_
    | with_reducible refine WP_draw (fun _ => none) (fun _ => 0) (gamma0 _) (by kernel_rfl) (by kernel_rfl) ?_
    | ((with_reducible refine ifP (fun _ => ?_) (fun _ => ?_)) <;> try (exfalso; omega))
    | (with_reducible refine And.intro ?_ ?_)
    | ((with_reducible refine (id ?_ : (_ : Nat) ≤ _)); omega))
    · exact ⟨m, r, ids, en, H, rfl, rfl⟩
    · exact .refl _ _
  | some i =>
    simp only [Option.map_some, Option.getD_some]
    obtain ⟨hi, hk⟩ := lk_some hl
    obtain ⟨pv, nx, R⟩ := H.rg
    have hx := R.nd i (by simp [hi])
    by_cases hp : (en i).dirty = false
    · repeat' (first
    | with_reducible refine WP_seq ?_
    | ((first | with_reducible refine WP_skip ?_ | with_reducible refine SQ_nil ?_); (first | simp only [Exit.sel, Exit.blk] | simp only [EV2, EVB, stepH, gdOf, modeOf, effD, opD, putD, ofV, ofV1, D.cells, D.lay, D.one, condP, Exit.sel, Exit.blk, RetP, oneOf, resD, putAt, nilD, extrD, fillD, buildD, mapPutD, mapDelD, mapEntD, entPutD, newMapD, moveD, boundD, makeD, appendD, liveD, reduceCtorEq, if_true, if_false, ne_eq, ty_pt_66, ty_sz_68, ty_fd_68_2, ty_sz_4, ty_ag_4, Try.results18, hx, nodeC, kC, vD, hp]))
    | ((first | with_reducible refine WP_cond ?_ | with_reducible refine WP_ret ?_ | ((with_reducible refine SQr rfl ?_); intro rest hrest)); simp only [EV2, EVB, stepH, gdOf, modeOf, effD, opD, putD, ofV, ofV1, D.cells, D.lay, D.one, condP, Exit.sel, Exit.blk, RetP, oneOf, resD, putAt, nilD, extrD, fillD, buildD, mapPutD, mapDelD, mapEntD, entPutD, newMapD, moveD, boundD, makeD, appendD, liveD, reduceCtorEq, if_true, if_false, ne_eq, ty_pt_66, ty_sz_68, ty_fd_68_2, ty_sz_4, ty_ag_4, Try.results18, hx, nodeC, kC, vD, hp])
    | with_reducible refine WP_block ?_
    | ((with_reducible refine WP_exit ?_); simp only [Exit.sel, Exit.blk, reduceIte, eq_self, Nat.reduceEqDiff, Nat.zero_ne_one, Nat.one_ne_zero])
    | ((with_reducible refine hrest _ ?_); clear hrest rest)
    | with_reducible refine WP_reg (fun _ => none) (fun _ => 0) (gamma0 _) ?_
    | with_reducible refine WP_draw (fun _ => none) (fun _ => 0) (gamma0 _) (by kernel_rfl) (by kernel_rfl) ?_
    | ((with_reducible refine ifP (fun _ => ?_) (fun _ => ?_)) <;> try (exfalso; omega))
    | (with_reducible refine And.intro ?_ ?_)
    | ((with_reducible refine (id ?_ : (_ : Nat) ≤ _)); omega))
      · exact ⟨m, r, ids, en, H, rfl, rfl⟩
      · exact .refl _ _
    · have hp : (en i).dirty = true := by simpa using hp
      repeat' (first
    | with_reducible refine WP_seq ?_
    | ((first | with_reducible refine WP_skip ?_ | with_reducible refine SQ_nil ?_); (first | simp only [Exit.sel, Exit.blk] | simp only [EV2, EVB, stepH, gdOf, modeOf, effD, opD, putD, ofV, ofV1, D.cells, D.lay, D.one, condP, Exit.sel, Exit.blk, RetP, oneOf, resD, putAt, nilD, extrD, fillD, buildD, mapPutD, mapDelD, mapEntD, entPutD, newMapD, moveD, boundD, makeD, appendD, liveD, reduceCtorEq, if_true, if_false, ne_eq, ty_pt_66, ty_sz_68, ty_fd_68_2, ty_sz_4, ty_ag_4, Try.results18, hx, nodeC, kC, vD, hp]))
    | ((first | with_reducible refine WP_cond ?_ | with_reducible refine WP_ret ?_ | ((with_reducible refine SQr rfl ?_); intro rest hrest)); simp only [EV2, EVB, stepH, gdOf, modeOf, effD, opD, putD, ofV, ofV1, D.cells, D.lay, D.one, condP, Exit.sel, Exit.blk, RetP, oneOf, resD, putAt, nilD, extrD, fillD, buildD, mapPutD, mapDelD, mapEntD, entPutD, newMapD, moveD, boundD, makeD, appendD, liveD, reduceCtorEq, if_true, if_false, ne_eq, ty_pt_66, ty_sz_68, ty_fd_68_2, ty_sz_4, ty_ag_4, Try.results18, hx, nodeC, kC, vD, hp])
    | with_reducible refine WP_block ?_
    | ((with_reducible refine WP_exit ?_); simp only [Exit.sel, Exit.blk, reduceIte, eq_self, Nat.reduceEqDiff, Nat.zero_ne_one, Nat.one_ne_zero])
    | ((with_reducible refine hrest _ ?_); clear hrest rest)
    | with_reducible refine WP_reg (fun _ => none) (fun _ => 0) (gamma0 _) ?_
    | with_reducible refine WP_draw (fun _ => none) (fun _ => 0) (gamma0 _) (by kernel_rfl) (by kernel_rfl) ?_
    | ((with_reducible refine ifP (fun _ => ?_) (fun _ => ?_)) <;> try (exfalso; omega))
    | (with_reducible refine And.intro ?_ ?_)
    | ((with_reducible refine (id ?_ : (_ : Nat) ≤ _)); omega))
      · refine ⟨m, r, ids, _, H.set hi (e := (fun e : Ent => { e with dirty := false }) (en i)) rfl R (fun j hj => Heap.upd_ne _ _ hj) (by rw [Heap.upd_same]; rfl), rfl, ?_⟩
        exact upk_map _ hl H.ky
      · exact ⟨fun j hj _ => Heap.upd_ne _ _ (fun e => hj (by simp [e, hi])), fun j hj => .inl hj⟩
end Go.Proofs.Ytcjndiagbdkikaa.I
