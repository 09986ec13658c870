/- The cache of strings, second half. No condition. -/
import Derived.Test.YtcjndiagbdkikaaCsA
import Derived.Test.YtcjndiagbdkikaaEng15
set_option linter.unusedSimpArgs false
set_option linter.unusedVariables false
namespace Go.Proofs.Ytcjndiagbdkikaa.S

def upk (k : Key) (f : Ent → Ent) (L : List Ent) : List Ent := L.map fun e => if e.key = k then f e else e

theorem upk_map {k : Key} {ids : List Nat} {en : Nat → Ent} {i : Nat} (f : Ent → Ent) (hl : lk k ids en = some i) (hk : (ids.map fun i => (en i).key).Nodup) : upk k f (ids.map en) = ids.map fun j => if j = i then f (en i) else en j := by
  obtain ⟨hi, he⟩ := lk_some hl
  rw [upk, List.map_map]
  refine List.map_congr_left fun j hj => ?_
  by_cases hji : j = i
  · simp [hji, he]
  · have : (en j).key ≠ k := fun e => hji (key_inj hk hj hi (by rw [e, he]))
    simp [hji, this]

/-- An entry changed, but for its key. -/
theorem Ca.set {h h' : Heap} {c m r : Nat} {n : Int} {ids : List Nat} {en : Nat → Ent} (H : Ca h c m r n ids en) {i : Nat} (hi : i ∈ ids) {e : Ent} (he : e.key = (en i).key) {pv nx : Nat → Nat} (R : Rg h r ids en pv nx)
    (hf : ∀ j, j ≠ i → h' j = h j) (hv : h' i = some (.cells (nodeC e (pv i) (nx i)))) : Ca h' c m r n ids (fun j => if j = i then e else en j) := by
  obtain ⟨n1, n2, n3⟩ := H.ne
  obtain ⟨mes, clock, pr, hm, h1, h2⟩ := H.mp
  have hk : ∀ j, (if j = i then e else en j).key = (en j).key := fun j => by by_cases hj : j = i <;> simp [hj, he]
  refine ⟨by rw [hf c (fun e => n1 (by simp [e, hi]))]; exact H.hc, ⟨mes, clock, pr, by rw [hf m (fun e => n2 (by simp [e, hi]))]; exact hm, h1, ?_⟩, ⟨pv, nx, fun j hj => ?_, R.ch, R.un⟩, ?_⟩
  · simpa only [hk] using h2
  · by_cases hji : j = i
    · subst hji; simpa using hv
    · rw [hf j hji]; simpa [hji] using R.nd j hj
  · simpa only [hk] using H.ky

theorem drop_nil (h : Heap) (k : Key) : CallsA Try.prog 57 [.nilp, kD k] h fun d h' => d = .bool false ∧ h' = h := by
  refine CallsA_body Try.func57 rfl en_57 ?_
  simp only [Try.ntmps57, List.length_cons, List.length_nil, List.replicate]
  repeat' (first
    | with_reducible refine WP_seq ?_
    | ((first | with_reducible refine WP_skip ?_ | with_reducible refine SQ_nil ?_); (first | simp only [Exit.sel, Exit.blk] | simp only [EV2, EVB, stepH, gdOf, modeOf, effD, opD, putD, ofV, ofV1, D.cells, D.lay, D.one, condP, Exit.sel, Exit.blk, RetP, oneOf, resD, putAt, nilD, extrD, fillD, buildD, mapPutD, mapDelD, mapEntD, entPutD, newMapD, moveD, boundD, makeD, appendD, liveD, reduceCtorEq, if_true, if_false, ne_eq, ty_pt_87, ty_sz_89, ty_fd_89_3, ty_sz_3, ty_ag_3, ty_fd_91_1, ty_sz_86, ty_ag_86, ty_ma_86, ty_st_9, Try.results57]))
    | ((first | with_reducible refine WP_cond ?_ | with_reducible refine WP_ret ?_ | ((with_reducible refine SQr rfl ?_); intro rest hrest)); simp only [EV2, EVB, stepH, gdOf, modeOf, effD, opD, putD, ofV, ofV1, D.cells, D.lay, D.one, condP, Exit.sel, Exit.blk, RetP, oneOf, resD, putAt, nilD, extrD, fillD, buildD, mapPutD, mapDelD, mapEntD, entPutD, newMapD, moveD, boundD, makeD, appendD, liveD, reduceCtorEq, if_true, if_false, ne_eq, ty_pt_87, ty_sz_89, ty_fd_89_3, ty_sz_3, ty_ag_3, ty_fd_91_1, ty_sz_86, ty_ag_86, ty_ma_86, ty_st_9, Try.results57])
    | with_reducible refine WP_block ?_
    | ((with_reducible refine WP_exit ?_); simp only [Exit.sel, Exit.blk, reduceIte, eq_self, Nat.reduceEqDiff, Nat.zero_ne_one, Nat.one_ne_zero])
    | ((with_reducible refine hrest _ ?_); clear hrest rest)
    | with_reducible refine WP_reg (fun _ => none) (fun _ => 0) (gamma0 _) ?_
    | with_reducible refine WP_draw (fun _ => none) (fun _ => 0) (gamma0 _) (by kernel_rfl) (by kernel_rfl) ?_
    | ((with_reducible refine ifP (fun _ => ?_) (fun _ => ?_)) <;> try (exfalso; omega))
    | (with_reducible refine And.intro ?_ ?_)
    | ((with_reducible refine (id ?_ : (_ : Nat) ≤ _)); omega))
  refine (find_nil h k).mono fun _ h' ⟨hd, hh⟩ => ?_
  subst hd hh
  repeat' (first
    | with_reducible refine WP_seq ?_
    | ((first | with_reducible refine WP_skip ?_ | with_reducible refine SQ_nil ?_); (first | simp only [Exit.sel, Exit.blk] | simp only [EV2, EVB, stepH, gdOf, modeOf, effD, opD, putD, ofV, ofV1, D.cells, D.lay, D.one, condP, Exit.sel, Exit.blk, RetP, oneOf, resD, putAt, nilD, extrD, fillD, buildD, mapPutD, mapDelD, mapEntD, entPutD, newMapD, moveD, boundD, makeD, appendD, liveD, reduceCtorEq, if_true, if_false, ne_eq, ty_pt_87, ty_sz_89, ty_fd_89_3, ty_sz_3, ty_ag_3, ty_fd_91_1, ty_sz_86, ty_ag_86, ty_ma_86, ty_st_9, Try.results57]))
    | ((first | with_reducible refine WP_cond ?_ | with_reducible refine WP_ret ?_ | ((with_reducible refine SQr rfl ?_); intro rest hrest)); simp only [EV2, EVB, stepH, gdOf, modeOf, effD, opD, putD, ofV, ofV1, D.cells, D.lay, D.one, condP, Exit.sel, Exit.blk, RetP, oneOf, resD, putAt, nilD, extrD, fillD, buildD, mapPutD, mapDelD, mapEntD, entPutD, newMapD, moveD, boundD, makeD, appendD, liveD, reduceCtorEq, if_true, if_false, ne_eq, ty_pt_87, ty_sz_89, ty_fd_89_3, ty_sz_3, ty_ag_3, ty_fd_91_1, ty_sz_86, ty_ag_86, ty_ma_86, ty_st_9, Try.results57])
    | with_reducible refine WP_block ?_
    | ((with_reducible refine WP_exit ?_); simp only [Exit.sel, Exit.blk, reduceIte, eq_self, Nat.reduceEqDiff, Nat.zero_ne_one, Nat.one_ne_zero])
    | ((with_reducible refine hrest _ ?_); clear hrest rest)
    | with_reducible refine WP_reg (fun _ => none) (fun _ => 0) (gamma0 _) ?_
    | with_reducible refine WP_draw (fun _ => none) (fun _ => 0) (gamma0 _) (by kernel_rfl) (by kernel_rfl) ?_
    | ((with_reducible refine ifP (fun _ => ?_) (fun _ => ?_)) <;> try (exfalso; omega))
    | (with_reducible refine And.intro ?_ ?_)
    | ((with_reducible refine (id ?_ : (_ : Nat) ≤ _)); omega))
  all_goals rfl



/-- Dropped? -/
def dropB (k : Key) (L : List Ent) : Bool := match fnd k L with | none => false | some e => !decide (0 < e.pins)

theorem Mp.del {h' : Heap} {m : Nat} {k : Key} {ids : List Nat} {en : Nat → Ent} {i : Nat} (hk : (ids.map fun i => (en i).key).Nodup) (hl : lk k ids en = some i) {mes : List ME} {clock : Nat} {pr : List (Key × Nat)}
    (h1 : mes.map pk = pr.map pd) (h2 : pr.Perm (ids.map fun i => ((en i).key, i))) (hm : h' m = some (.map (delM (kD k) mes) clock)) : Mp h' m (ids.erase i) en := by
  obtain ⟨hi, he⟩ := lk_some hl
  refine ⟨_, clock, _, hm, delM_pr k mes pr h1, ?_⟩
  have hm : (k, i) ∈ pr := h2.mem_iff.2 (List.mem_map.2 ⟨i, hi, by rw [he]⟩)
  obtain ⟨a, l1, l2, g1, g2, g3, g4⟩ := List.exists_of_eraseP hm (p := fun p => p.1 == k) (by simp)
  have ha : a ∈ pr := by rw [g3]; simp
  obtain ⟨j, hj, rfl⟩ := List.mem_map.1 (h2.mem_iff.1 ha)
  have hji : j = i := key_inj hk hj hi (by rw [he]; simpa using g2)
  subst hji
  rw [g4]
  rw [g3] at h2
  have p1 : ((en j).key, j) :: (l1 ++ l2) |>.Perm (((en j).key, j) :: (ids.erase j).map fun i => ((en i).key, i)) := List.perm_middle.symm.trans (h2.trans ((List.perm_cons_erase hi).map _))
  exact p1.cons_inv

theorem drop_calls {h : Heap} {c : Nat} {F : List Nat} {n : Int} {L : List Ent} (H : CaL h c F n L) (k : Key) :
    CallsA Try.prog 57 [.ptr c 0, kD k] h fun d h' => d = .bool (dropB k L) ∧ ∃ F', CaL h' c F' n (if dropB k L then rem k L else L) ∧ Fr h h' F F' := by
  obtain ⟨m, r, ids, en, H, rfl, rfl⟩ := H
  have hc := H.hc
  rw [dropB, fnd_map]
  refine CallsA_body Try.func57 rfl en_57 ?_
  simp only [Try.ntmps57, List.length_cons, List.length_nil, List.replicate]
  repeat' (first
    | with_reducible refine WP_seq ?_
    | ((first | with_reducible refine WP_skip ?_ | with_reducible refine SQ_nil ?_); (first | simp only [Exit.sel, Exit.blk] | simp only [EV2, EVB, stepH, gdOf, modeOf, effD, opD, putD, ofV, ofV1, D.cells, D.lay, D.one, condP, Exit.sel, Exit.blk, RetP, oneOf, resD, putAt, nilD, extrD, fillD, buildD, mapPutD, mapDelD, mapEntD, entPutD, newMapD, moveD, boundD, makeD, appendD, liveD, reduceCtorEq, if_true, if_false, ne_eq, ty_pt_87, ty_sz_89, ty_fd_89_3, ty_sz_3, ty_ag_3, ty_fd_91_1, ty_sz_86, ty_ag_86, ty_ma_86, ty_st_9, Try.results57]))
    | ((first | with_reducible refine WP_cond ?_ | with_reducible refine WP_ret ?_ | ((with_reducible refine SQr rfl ?_); intro rest hrest)); simp only [EV2, EVB, stepH, gdOf, modeOf, effD, opD, putD, ofV, ofV1, D.cells, D.lay, D.one, condP, Exit.sel, Exit.blk, RetP, oneOf, resD, putAt, nilD, extrD, fillD, buildD, mapPutD, mapDelD, mapEntD, entPutD, newMapD, moveD, boundD, makeD, appendD, liveD, reduceCtorEq, if_true, if_false, ne_eq, ty_pt_87, ty_sz_89, ty_fd_89_3, ty_sz_3, ty_ag_3, ty_fd_91_1, ty_sz_86, ty_ag_86, ty_ma_86, ty_st_9, Try.results57])
    | with_reducible refine WP_block ?_
    | ((with_reducible refine WP_exit ?_); simp only [Exit.sel, Exit.blk, reduceIte, eq_self, Nat.reduceEqDiff, Nat.zero_ne_one, Nat.one_ne_zero])
    | ((with_reducible refine hrest _ ?_); clear hrest rest)
    | with_reducible refine WP_reg (fun _ => none) (fun _ => 0) (gamma0 _) ?_
    | with_reducible refine WP_draw (fun _ => none) (fun _ => 0) (gamma0 _) (by kernel_rfl) (by kernel_rfl) ?_
    | ((with_reducible refine ifP (fun _ => ?_) (fun _ => ?_)) <;> try (exfalso; omega))
    | (with_reducible refine And.intro ?_ ?_)
    | ((with_reducible refine (id ?_ : (_ : Nat) ≤ _)); omega))
  refine (find_calls H k).mono fun d h' ⟨hd, hh⟩ => ?_
  subst hd hh
  (with_reducible refine hrest _ ?_); clear hrest rest
  cases hl : lk k ids en with
  | none =>
    simp only [Option.map_none, Option.getD_none]
    repeat' (first
    | with_reducible refine WP_seq ?_
    | ((first | with_reducible refine WP_skip ?_ | with_reducible refine SQ_nil ?_); (first | simp only [Exit.sel, Exit.blk] | simp only [EV2, EVB, stepH, gdOf, modeOf, effD, opD, putD, ofV, ofV1, D.cells, D.lay, D.one, condP, Exit.sel, Exit.blk, RetP, oneOf, resD, putAt, nilD, extrD, fillD, buildD, mapPutD, mapDelD, mapEntD, entPutD, newMapD, moveD, boundD, makeD, appendD, liveD, reduceCtorEq, if_true, if_false, ne_eq, ty_pt_87, ty_sz_89, ty_fd_89_3, ty_sz_3, ty_ag_3, ty_fd_91_1, ty_sz_86, ty_ag_86, ty_ma_86, ty_st_9, Try.results57]))
    | ((first | with_reducible refine WP_cond ?_ | with_reducible refine WP_ret ?_ | ((with_reducible refine SQr rfl ?_); intro rest hrest)); simp only [EV2, EVB, stepH, gdOf, modeOf, effD, opD, putD, ofV, ofV1, D.cells, D.lay, D.one, condP, Exit.sel, Exit.blk, RetP, oneOf, resD, putAt, nilD, extrD, fillD, buildD, mapPutD, mapDelD, mapEntD, entPutD, newMapD, moveD, boundD, makeD, appendD, liveD, reduceCtorEq, if_true, if_false, ne_eq, ty_pt_87, ty_sz_89, ty_fd_89_3, ty_sz_3, ty_ag_3, ty_fd_91_1, ty_sz_86, ty_ag_86, ty_ma_86, ty_st_9, Try.results57])
    | with_reducible refine WP_block ?_
    | ((with_reducible refine WP_exit ?_); simp only [Exit.sel, Exit.blk, reduceIte, eq_self, Nat.reduceEqDiff, Nat.zero_ne_one, Nat.one_ne_zero])
    | ((with_reducible refine hrest _ ?_); clear hrest rest)
    | with_reducible refine WP_reg (fun _ => none) (fun _ => 0) (gamma0 _) ?_
    | with_reducible refine WP_draw (fun _ => none) (fun _ => 0) (gamma0 _) (by kernel_rfl) (by kernel_rfl) ?_
    | ((with_reducible refine ifP (fun _ => ?_) (fun _ => ?_)) <;> try (exfalso; omega))
    | (with_reducible refine And.intro ?_ ?_)
    | ((with_reducible refine (id ?_ : (_ : Nat) ≤ _)); omega))
    exact ⟨_, ⟨m, r, ids, en, H, rfl, rfl⟩, .refl _ _⟩
  | some i =>
    simp only [Option.map_some, Option.getD_some]
    obtain ⟨hi, hk⟩ := lk_some hl
    obtain ⟨pv, nx, R⟩ := H.rg
    have hx := R.nd i (by simp [hi])
    obtain ⟨mes, clock, pr, hm, h1, h2⟩ := H.mp
    have hks := fun t ht => keysOk_pr t ht mes pr h1
    have hik := fun t ht => isK t ht k
    obtain ⟨n1, n2, n3⟩ := H.ne
    by_cases hp : 0 < (en i).pins
    · repeat' (first
    | with_reducible refine WP_seq ?_
    | ((first | with_reducible refine WP_skip ?_ | with_reducible refine SQ_nil ?_); (first | simp only [Exit.sel, Exit.blk] | simp only [EV2, EVB, stepH, gdOf, modeOf, effD, opD, putD, ofV, ofV1, D.cells, D.lay, D.one, condP, Exit.sel, Exit.blk, RetP, oneOf, resD, putAt, nilD, extrD, fillD, buildD, mapPutD, mapDelD, mapEntD, entPutD, newMapD, moveD, boundD, makeD, appendD, liveD, reduceCtorEq, if_true, if_false, ne_eq, ty_pt_87, ty_sz_89, ty_fd_89_3, ty_sz_3, ty_ag_3, ty_fd_91_1, ty_sz_86, ty_ag_86, ty_ma_86, ty_st_9, Try.results57, hx, nodeC, kC, vD, hp]))
    | ((first | with_reducible refine WP_cond ?_ | with_reducible refine WP_ret ?_ | ((with_reducible refine SQr rfl ?_); intro rest hrest)); simp only [EV2, EVB, stepH, gdOf, modeOf, effD, opD, putD, ofV, ofV1, D.cells, D.lay, D.one, condP, Exit.sel, Exit.blk, RetP, oneOf, resD, putAt, nilD, extrD, fillD, buildD, mapPutD, mapDelD, mapEntD, entPutD, newMapD, moveD, boundD, makeD, appendD, liveD, reduceCtorEq, if_true, if_false, ne_eq, ty_pt_87, ty_sz_89, ty_fd_89_3, ty_sz_3, ty_ag_3, ty_fd_91_1, ty_sz_86, ty_ag_86, ty_ma_86, ty_st_9, Try.results57, hx, nodeC, kC, vD, hp])
    | with_reducible refine WP_block ?_
    | ((with_reducible refine WP_exit ?_); simp only [Exit.sel, Exit.blk, reduceIte, eq_self, Nat.reduceEqDiff, Nat.zero_ne_one, Nat.one_ne_zero])
    | ((with_reducible refine hrest _ ?_); clear hrest rest)
    | with_reducible refine WP_reg (fun _ => none) (fun _ => 0) (gamma0 _) ?_
    | with_reducible refine WP_draw (fun _ => none) (fun _ => 0) (gamma0 _) (by kernel_rfl) (by kernel_rfl) ?_
    | ((with_reducible refine ifP (fun _ => ?_) (fun _ => ?_)) <;> try (exfalso; omega))
    | (with_reducible refine And.intro ?_ ?_)
    | ((with_reducible refine (id ?_ : (_ : Nat) ≤ _)); omega))
      · simp [hp]
      · exact ⟨_, ⟨m, r, ids, en, H, rfl, rfl⟩, .refl _ _⟩
    · repeat' (first
    | with_reducible refine WP_seq ?_
    | ((first | with_reducible refine WP_skip ?_ | with_reducible refine SQ_nil ?_); (first | simp only [Exit.sel, Exit.blk] | simp only [EV2, EVB, stepH, gdOf, modeOf, effD, opD, putD, ofV, ofV1, D.cells, D.lay, D.one, condP, Exit.sel, Exit.blk, RetP, oneOf, resD, putAt, nilD, extrD, fillD, buildD, mapPutD, mapDelD, mapEntD, entPutD, newMapD, moveD, boundD, makeD, appendD, liveD, reduceCtorEq, if_true, if_false, ne_eq, ty_pt_87, ty_sz_89, ty_fd_89_3, ty_sz_3, ty_ag_3, ty_fd_91_1, ty_sz_86, ty_ag_86, ty_ma_86, ty_st_9, Try.results57, hx, nodeC, kC, vD, hp]))
    | ((first | with_reducible refine WP_cond ?_ | with_reducible refine WP_ret ?_ | ((with_reducible refine SQr rfl ?_); intro rest hrest)); simp only [EV2, EVB, stepH, gdOf, modeOf, effD, opD, putD, ofV, ofV1, D.cells, D.lay, D.one, condP, Exit.sel, Exit.blk, RetP, oneOf, resD, putAt, nilD, extrD, fillD, buildD, mapPutD, mapDelD, mapEntD, entPutD, newMapD, moveD, boundD, makeD, appendD, liveD, reduceCtorEq, if_true, if_false, ne_eq, ty_pt_87, ty_sz_89, ty_fd_89_3, ty_sz_3, ty_ag_3, ty_fd_91_1, ty_sz_86, ty_ag_86, ty_ma_86, ty_st_9, Try.results57, hx, nodeC, kC, vD, hp])
    | with_reducible refine WP_block ?_
    | ((with_reducible refine WP_exit ?_); simp only [Exit.sel, Exit.blk, reduceIte, eq_self, Nat.reduceEqDiff, Nat.zero_ne_one, Nat.one_ne_zero])
    | ((with_reducible refine hrest _ ?_); clear hrest rest)
    | with_reducible refine WP_reg (fun _ => none) (fun _ => 0) (gamma0 _) ?_
    | with_reducible refine WP_draw (fun _ => none) (fun _ => 0) (gamma0 _) (by kernel_rfl) (by kernel_rfl) ?_
    | ((with_reducible refine ifP (fun _ => ?_) (fun _ => ?_)) <;> try (exfalso; omega))
    | (with_reducible refine And.intro ?_ ?_)
    | ((with_reducible refine (id ?_ : (_ : Nat) ≤ _)); omega))
      obtain ⟨l1, l2, l3, l4⟩ := R.links hi
      refine (out_calls _ (r :: ids) en pv nx i R.nd (by simp [hi]) l1 l2 l3 l4).mono fun _ h3 ⟨g1, g2⟩ => ?_
      have hc3 := (g2 c n1).trans hc
      have hm3 := (g2 m n2).trans hm
      repeat' (first
    | with_reducible refine WP_seq ?_
    | ((first | with_reducible refine WP_skip ?_ | with_reducible refine SQ_nil ?_); (first | simp only [Exit.sel, Exit.blk] | simp only [EV2, EVB, stepH, gdOf, modeOf, effD, opD, putD, ofV, ofV1, D.cells, D.lay, D.one, condP, Exit.sel, Exit.blk, RetP, oneOf, resD, putAt, nilD, extrD, fillD, buildD, mapPutD, mapDelD, mapEntD, entPutD, newMapD, moveD, boundD, makeD, appendD, liveD, reduceCtorEq, if_true, if_false, ne_eq, ty_pt_87, ty_sz_89, ty_fd_89_3, ty_sz_3, ty_ag_3, ty_fd_91_1, ty_sz_86, ty_ag_86, ty_ma_86, ty_st_9, Try.results57, hc3, hm3, hks, hik]))
    | ((first | with_reducible refine WP_cond ?_ | with_reducible refine WP_ret ?_ | ((with_reducible refine SQr rfl ?_); intro rest hrest)); simp only [EV2, EVB, stepH, gdOf, modeOf, effD, opD, putD, ofV, ofV1, D.cells, D.lay, D.one, condP, Exit.sel, Exit.blk, RetP, oneOf, resD, putAt, nilD, extrD, fillD, buildD, mapPutD, mapDelD, mapEntD, entPutD, newMapD, moveD, boundD, makeD, appendD, liveD, reduceCtorEq, if_true, if_false, ne_eq, ty_pt_87, ty_sz_89, ty_fd_89_3, ty_sz_3, ty_ag_3, ty_fd_91_1, ty_sz_86, ty_ag_86, ty_ma_86, ty_st_9, Try.results57, hc3, hm3, hks, hik])
    | with_reducible refine WP_block ?_
    | ((with_reducible refine WP_exit ?_); simp only [Exit.sel, Exit.blk, reduceIte, eq_self, Nat.reduceEqDiff, Nat.zero_ne_one, Nat.one_ne_zero])
    | ((with_reducible refine hrest _ ?_); clear hrest rest)
    | with_reducible refine WP_reg (fun _ => none) (fun _ => 0) (gamma0 _) ?_
    | with_reducible refine WP_draw (fun _ => none) (fun _ => 0) (gamma0 _) (by kernel_rfl) (by kernel_rfl) ?_
    | ((with_reducible refine ifP (fun _ => ?_) (fun _ => ?_)) <;> try (exfalso; omega))
    | (with_reducible refine And.intro ?_ ?_)
    | ((with_reducible refine (id ?_ : (_ : Nat) ≤ _)); omega))
      · simp [hp]
      have o := R.out hi g1
      have hmr : ∀ y ∈ r :: ids, y ≠ m := fun y hy e => n2 (e ▸ hy)
      have hsub : ∀ y ∈ r :: ids.erase i, y ∈ r :: ids := fun y hy => by
        simp only [List.mem_cons] at hy ⊢
        exact hy.imp id List.mem_of_mem_erase
      refine ⟨_, ⟨m, r, ids.erase i, en, ⟨by rw [Heap.upd_ne _ _ n3]; exact hc3, Mp.del H.ky hl h1 h2 (by rw [Heap.upd_same]), ⟨_, _, fun y hy => ?_, o.1.ch, o.1.un⟩, ?_⟩, rfl, ?_⟩, ⟨fun j hj _ => ?_, fun j hj => .inl ?_⟩⟩
      · rw [Heap.upd_ne _ _ (hmr y (hsub y hy))]; exact o.1.nd y hy
      · exact (List.nodup_cons.1 (((List.perm_cons_erase hi).map fun i => (en i).key).nodup_iff.1 H.ky)).2
      · exact rem_map hl
      · rw [Heap.upd_ne _ _ (fun e => hj (by simp [e]))]
        exact g2 j (fun e => hj (by simp only [List.mem_cons] at e ⊢; exact .inr (.inr e)))
      · simp only [List.mem_cons] at hj ⊢
        rcases hj with h | h | h | h
        · exact .inl h
        · exact .inr (.inl h)
        · exact .inr (.inr (.inl h))
        · exact .inr (.inr (.inr (List.mem_of_mem_erase h)))

def pinB (k : Key) (L : List Ent) : Bool := match fnd k L with | none => false | some e => true


def unpinB (k : Key) (L : List Ent) : Bool := match fnd k L with | none => false | some e => !decide (e.pins = 0)


def cleanB (k : Key) (L : List Ent) : Bool := match fnd k L with | none => false | some e => e.dirty


end Go.Proofs.Ytcjndiagbdkikaa.S

namespace Go.Proofs.Ytcjndiagbdkikaa.S

theorem Chain_at {pv nx : Nat → Nat} : ∀ {l : List Nat} {a b : Nat}, Chain pv nx a l b → nx a = l.getD 0 b ∧ ∀ k, k < l.length → nx (l.getD k b) = l.getD (k + 1) b
  | [], a, b, h => ⟨h.1, fun k hk => by simp at hk⟩
  | x :: l, a, b, h => by
    have ih := Chain_at h.2.2
    refine ⟨h.1, fun k hk => ?_⟩
    cases k with
    | zero => simpa using ih.1
    | succ k => simpa using ih.2 k (by simpa using hk)

theorem CaL.frame {h h' : Heap} {c : Nat} {F : List Nat} {n : Int} {L : List Ent} (H : CaL h c F n L) (hf : ∀ i ∈ F, h i ≠ none → h' i = h i) : CaL h' c F n L := by
  obtain ⟨m, r, ids, en, H, rfl, rfl⟩ := H
  obtain ⟨mes, clock, pr, hm, h1, h2⟩ := H.mp
  obtain ⟨pv, nx, R⟩ := H.rg
  refine ⟨m, r, ids, en, ⟨?_, ⟨mes, clock, pr, ?_, h1, h2⟩, ⟨pv, nx, fun y hy => ?_, R.ch, R.un⟩, H.ky⟩, rfl, rfl⟩
  · rw [hf c (by simp) (by simp [H.hc])]; exact H.hc
  · rw [hf m (by simp) (by simp [hm])]; exact hm
  · have := R.nd y hy
    rw [hf y (by simp only [List.mem_cons] at hy ⊢; exact .inr (.inr hy)) (by simp [this])]; exact this

theorem node_at {h : Heap} {r : Nat} {ids : List Nat} {en : Nat → Ent} {pv nx : Nat → Nat} (R : Rg h r ids en pv nx) (k : Nat) : h (ids.getD k r) = some (.cells (nodeC (en (ids.getD k r)) (pv (ids.getD k r)) (nx (ids.getD k r)))) := by
  apply R.nd
  by_cases hk : k < ids.length
  · simp [List.getD, hk]
  · simp [List.getD, hk]

theorem node_ne {h : Heap} {r : Nat} {ids : List Nat} {en : Nat → Ent} {pv nx : Nat → Nat} (R : Rg h r ids en pv nx) {k : Nat} (hk : k < ids.length) : ids.getD k r ≠ r := by
  intro e
  apply (List.nodup_cons.1 R.un).1
  rw [← e]; simp [List.getD, hk]

theorem node_end {r : Nat} {ids : List Nat} {k : Nat} (hk : ¬ k < ids.length) : ids.getD k r = r := by
  simp [List.getD, Nat.not_lt.1 hk]

/-- May go. -/
def free (e : Ent) : Bool := !e.dirty && decide (e.pins = 0)

theorem lk_mem {ids : List Nat} {en : Nat → Ent} (hk : (ids.map fun i => (en i).key).Nodup) {i : Nat} (hi : i ∈ ids) : lk (en i).key ids en = some i := by
  cases hl : lk (en i).key ids en with
  | none => exact absurd rfl (lk_none hl i hi)
  | some j =>
    obtain ⟨h1, h2⟩ := lk_some hl
    rw [key_inj hk h1 hi h2]

theorem free_first {ids : List Nat} {en : Nat → Ent} (hk : (ids.map fun i => (en i).key).Nodup) (hu : ids.Nodup) {k r : Nat} (hlt : k < ids.length) (hb : ∀ i ∈ ids.take k, free (en i) = false) (hp : free (en (ids.getD k r)) = true) :
    rem (en (ids.getD k r)).key (ids.map en) = (ids.map en).eraseP free ∧ dropB (en (ids.getD k r)).key (ids.map en) = true ∧ (ids.map en).any free = true := by
  have hm : ids.getD k r ∈ ids := by simp [List.getD, hlt]
  have hl := lk_mem hk hm
  have hd : ids = ids.take k ++ ids.getD k r :: ids.drop (k + 1) := by
    have h1 : ids.drop k = ids.getD k r :: ids.drop (k + 1) := by rw [List.drop_eq_getElem_cons hlt]; simp [List.getD, hlt]
    rw [← h1, List.take_append_drop]
  have hn : ids.getD k r ∉ ids.take k := by
    intro e
    have := hb _ e
    rw [hp] at this; simp at this
  refine ⟨?_, ?_, ?_⟩
  · rw [rem_map hl]
    generalize hy : ids.getD k r = y at *
    generalize ids.take k = l1 at *
    generalize ids.drop (k + 1) = l2 at *
    subst hd
    rw [List.erase_append_right _ hn, List.erase_cons_head, List.map_append, List.map_append, List.eraseP_append_right, List.map_cons, List.eraseP_cons_of_pos hp]
    intro e he
    obtain ⟨j, hj, rfl⟩ := List.mem_map.1 he
    simp [hb j hj]
  · simp only [dropB, fnd_map, hl, Option.map_some]
    simp only [free, Bool.and_eq_true, decide_eq_true_eq] at hp
    rw [hp.2]; rfl
  · rw [List.any_map, List.any_eq_true]; exact ⟨_, hm, hp⟩

theorem room_calls {h : Heap} {c : Nat} {F : List Nat} {n : Int} {L : List Ent} (H : CaL h c F n L) :
    CallsA Try.prog 52 [.ptr c 0] h fun d h' => d = .bool (L.any free) ∧ ∃ F', CaL h' c F' n (L.eraseP free) ∧ Fr h h' F F' := by
  have H0 := H
  obtain ⟨m, r, ids, en, H, rfl, rfl⟩ := H
  obtain ⟨pv, nx, R⟩ := H.rg
  have hc := H.hc
  have hr := R.nd r (by simp)
  refine CallsA_body Try.func52 rfl en_52 ?_
  simp only [Try.ntmps52, List.length_cons, List.length_nil, List.replicate]
  repeat' (first
    | with_reducible refine WP_seq ?_
    | ((first | with_reducible refine WP_skip ?_ | with_reducible refine SQ_nil ?_); (first | simp only [Exit.sel, Exit.blk] | simp only [EV2, EVB, stepH, gdOf, modeOf, effD, opD, putD, ofV, ofV1, D.cells, D.lay, D.one, condP, Exit.sel, Exit.blk, RetP, oneOf, resD, putAt, nilD, extrD, fillD, buildD, mapPutD, mapDelD, mapEntD, entPutD, newMapD, moveD, boundD, makeD, appendD, liveD, reduceCtorEq, if_true, if_false, ne_eq, ty_fd_91_2, ty_sz_87, ty_ag_87, ty_fd_89_5, ty_pt_87, ty_sz_89, ty_fd_89_2, ty_sz_4, ty_ag_4, ty_fd_89_3, ty_sz_3, ty_ag_3, ty_ki_3, ty_fd_89_0, ty_sz_9, ty_ag_9, Try.results52, hc, hr, nodeC, kC, vD]))
    | ((first | with_reducible refine WP_cond ?_ | with_reducible refine WP_ret ?_ | ((with_reducible refine SQr rfl ?_); intro rest hrest)); simp only [EV2, EVB, stepH, gdOf, modeOf, effD, opD, putD, ofV, ofV1, D.cells, D.lay, D.one, condP, Exit.sel, Exit.blk, RetP, oneOf, resD, putAt, nilD, extrD, fillD, buildD, mapPutD, mapDelD, mapEntD, entPutD, newMapD, moveD, boundD, makeD, appendD, liveD, reduceCtorEq, if_true, if_false, ne_eq, ty_fd_91_2, ty_sz_87, ty_ag_87, ty_fd_89_5, ty_pt_87, ty_sz_89, ty_fd_89_2, ty_sz_4, ty_ag_4, ty_fd_89_3, ty_sz_3, ty_ag_3, ty_ki_3, ty_fd_89_0, ty_sz_9, ty_ag_9, Try.results52, hc, hr, nodeC, kC, vD])
    | with_reducible refine WP_block ?_
    | ((with_reducible refine WP_exit ?_); simp only [Exit.sel, Exit.blk, reduceIte, eq_self, Nat.reduceEqDiff, Nat.zero_ne_one, Nat.one_ne_zero])
    | ((with_reducible refine hrest _ ?_); clear hrest rest)
    | with_reducible refine WP_reg (fun _ => none) (fun _ => 0) (gamma0 _) ?_
    | with_reducible refine WP_draw (fun _ => none) (fun _ => 0) (gamma0 _) (by kernel_rfl) (by kernel_rfl) ?_
    | ((with_reducible refine ifP (fun _ => ?_) (fun _ => ?_)) <;> try (exfalso; omega))
    | (with_reducible refine And.intro ?_ ?_)
    | ((with_reducible refine (id ?_ : (_ : Nat) ≤ _)); omega))
  refine WP_loop (LW_loop (α := Nat) (fun k => k ≤ ids.length ∧ ∀ i ∈ ids.take k, free (en i) = false) (fun k => ids.length - k) (fun k => ⟨[.ptr c 0, .any, .bool false, .ptr (ids.getD k r) 0, .any, .any, .any, .any, .any, .any, .any, .any, .any, .any, .any, .any, .any, .any, .any, .any, .any, .any, .any, .any, .any, .any, .any, .any, .any, .any, .any, .any, .any, .any, .any, .any, .any, .any, .any], h⟩) 0 ⟨Nat.zero_le _, by simp⟩ ⟨?_, fun _ => .inl rfl⟩ ?_)
  · have h0 : D.ptr (ids.getD 0 r) 0 = D.ptr (nx r) 0 := by rw [(Chain_at R.ch).1]
    rw [h0]
    (repeat (first | with_reducible exact WkL.nil | with_reducible refine WkL.any ?_ | with_reducible refine WkL.same ?_ | refine WkL.eq ?_ (intw_eq (by omega) (by omega) (by omega)) | refine WkL.eq ?_ (int_eq (by omega)) | refine WkL.eq ?_ (by first | rfl | (simp; done))))
  rintro k ⟨hk, hb⟩ ih
  have hx := node_at R k
  by_cases hlt : k < ids.length
  · have hne := node_ne R hlt
    by_cases hp : free (en (ids.getD k r)) = true
    · have hp' := hp
      simp only [free, Bool.and_eq_true, Bool.not_eq_true', decide_eq_true_eq] at hp'
      obtain ⟨hp1, hp2⟩ := hp'
      obtain ⟨g1, g2, g3⟩ := free_first (r := r) H.ky (List.nodup_cons.1 R.un).2 hlt hb hp
      repeat' (first
    | with_reducible refine WP_seq ?_
    | ((first | with_reducible refine WP_skip ?_ | with_reducible refine SQ_nil ?_); (first | simp only [Exit.sel, Exit.blk] | simp only [EV2, EVB, stepH, gdOf, modeOf, effD, opD, putD, ofV, ofV1, D.cells, D.lay, D.one, condP, Exit.sel, Exit.blk, RetP, oneOf, resD, putAt, nilD, extrD, fillD, buildD, mapPutD, mapDelD, mapEntD, entPutD, newMapD, moveD, boundD, makeD, appendD, liveD, reduceCtorEq, if_true, if_false, ne_eq, ty_fd_91_2, ty_sz_87, ty_ag_87, ty_fd_89_5, ty_pt_87, ty_sz_89, ty_fd_89_2, ty_sz_4, ty_ag_4, ty_fd_89_3, ty_sz_3, ty_ag_3, ty_ki_3, ty_fd_89_0, ty_sz_9, ty_ag_9, Try.results52, hc, hr, hx, hne, hp1, hp2, nodeC, kC, vD]))
    | ((first | with_reducible refine WP_cond ?_ | with_reducible refine WP_ret ?_ | ((with_reducible refine SQr rfl ?_); intro rest hrest)); simp only [EV2, EVB, stepH, gdOf, modeOf, effD, opD, putD, ofV, ofV1, D.cells, D.lay, D.one, condP, Exit.sel, Exit.blk, RetP, oneOf, resD, putAt, nilD, extrD, fillD, buildD, mapPutD, mapDelD, mapEntD, entPutD, newMapD, moveD, boundD, makeD, appendD, liveD, reduceCtorEq, if_true, if_false, ne_eq, ty_fd_91_2, ty_sz_87, ty_ag_87, ty_fd_89_5, ty_pt_87, ty_sz_89, ty_fd_89_2, ty_sz_4, ty_ag_4, ty_fd_89_3, ty_sz_3, ty_ag_3, ty_ki_3, ty_fd_89_0, ty_sz_9, ty_ag_9, Try.results52, hc, hr, hx, hne, hp1, hp2, nodeC, kC, vD])
    | with_reducible refine WP_block ?_
    | ((with_reducible refine WP_exit ?_); simp only [Exit.sel, Exit.blk, reduceIte, eq_self, Nat.reduceEqDiff, Nat.zero_ne_one, Nat.one_ne_zero])
    | ((with_reducible refine hrest _ ?_); clear hrest rest)
    | with_reducible refine WP_reg (fun _ => none) (fun _ => 0) (gamma0 _) ?_
    | with_reducible refine WP_draw (fun _ => none) (fun _ => 0) (gamma0 _) (by kernel_rfl) (by kernel_rfl) ?_
    | ((with_reducible refine ifP (fun _ => ?_) (fun _ => ?_)) <;> try (exfalso; omega))
    | (with_reducible refine And.intro ?_ ?_)
    | ((with_reducible refine (id ?_ : (_ : Nat) ≤ _)); omega))
      refine (drop_calls H0 (en (ids.getD k r)).key).mono fun d h' hd => ?_
      rw [g1, g2] at hd
      obtain ⟨rfl, hd⟩ := hd
      repeat' (first
    | with_reducible refine WP_seq ?_
    | ((first | with_reducible refine WP_skip ?_ | with_reducible refine SQ_nil ?_); (first | simp only [Exit.sel, Exit.blk] | simp only [EV2, EVB, stepH, gdOf, modeOf, effD, opD, putD, ofV, ofV1, D.cells, D.lay, D.one, condP, Exit.sel, Exit.blk, RetP, oneOf, resD, putAt, nilD, extrD, fillD, buildD, mapPutD, mapDelD, mapEntD, entPutD, newMapD, moveD, boundD, makeD, appendD, liveD, reduceCtorEq, if_true, if_false, ne_eq, ty_fd_91_2, ty_sz_87, ty_ag_87, ty_fd_89_5, ty_pt_87, ty_sz_89, ty_fd_89_2, ty_sz_4, ty_ag_4, ty_fd_89_3, ty_sz_3, ty_ag_3, ty_ki_3, ty_fd_89_0, ty_sz_9, ty_ag_9, Try.results52]))
    | ((first | with_reducible refine WP_cond ?_ | with_reducible refine WP_ret ?_ | ((with_reducible refine SQr rfl ?_); intro rest hrest)); simp only [EV2, EVB, stepH, gdOf, modeOf, effD, opD, putD, ofV, ofV1, D.cells, D.lay, D.one, condP, Exit.sel, Exit.blk, RetP, oneOf, resD, putAt, nilD, extrD, fillD, buildD, mapPutD, mapDelD, mapEntD, entPutD, newMapD, moveD, boundD, makeD, appendD, liveD, reduceCtorEq, if_true, if_false, ne_eq, ty_fd_91_2, ty_sz_87, ty_ag_87, ty_fd_89_5, ty_pt_87, ty_sz_89, ty_fd_89_2, ty_sz_4, ty_ag_4, ty_fd_89_3, ty_sz_3, ty_ag_3, ty_ki_3, ty_fd_89_0, ty_sz_9, ty_ag_9, Try.results52])
    | with_reducible refine WP_block ?_
    | ((with_reducible refine WP_exit ?_); simp only [Exit.sel, Exit.blk, reduceIte, eq_self, Nat.reduceEqDiff, Nat.zero_ne_one, Nat.one_ne_zero])
    | ((with_reducible refine hrest _ ?_); clear hrest rest)
    | with_reducible refine WP_reg (fun _ => none) (fun _ => 0) (gamma0 _) ?_
    | with_reducible refine WP_draw (fun _ => none) (fun _ => 0) (gamma0 _) (by kernel_rfl) (by kernel_rfl) ?_
    | ((with_reducible refine ifP (fun _ => ?_) (fun _ => ?_)) <;> try (exfalso; omega))
    | (with_reducible refine And.intro ?_ ?_)
    | ((with_reducible refine (id ?_ : (_ : Nat) ≤ _)); omega))
      · rw [g3]
      · exact hd
    · have hp' := hp
      simp only [free, Bool.and_eq_true, Bool.not_eq_true', decide_eq_true_eq, not_and] at hp'
      have hn := (Chain_at R.ch).2 k hlt
      have hb' : ∀ i ∈ ids.take (k + 1), free (en i) = false := by
        intro i hi
        rw [List.take_add_one] at hi
        rcases List.mem_append.1 hi with h | h
        · exact hb i h
        · have : i = ids.getD k r := by simpa [List.getD, hlt, eq_comm] using h
          rw [this]; simpa using hp
      by_cases hp1 : (en (ids.getD k r)).dirty = false
      · have hp2 := hp' hp1
        repeat' (first
    | with_reducible refine WP_seq ?_
    | ((first | with_reducible refine WP_skip ?_ | with_reducible refine SQ_nil ?_); (first | simp only [Exit.sel, Exit.blk] | simp only [EV2, EVB, stepH, gdOf, modeOf, effD, opD, putD, ofV, ofV1, D.cells, D.lay, D.one, condP, Exit.sel, Exit.blk, RetP, oneOf, resD, putAt, nilD, extrD, fillD, buildD, mapPutD, mapDelD, mapEntD, entPutD, newMapD, moveD, boundD, makeD, appendD, liveD, reduceCtorEq, if_true, if_false, ne_eq, ty_fd_91_2, ty_sz_87, ty_ag_87, ty_fd_89_5, ty_pt_87, ty_sz_89, ty_fd_89_2, ty_sz_4, ty_ag_4, ty_fd_89_3, ty_sz_3, ty_ag_3, ty_ki_3, ty_fd_89_0, ty_sz_9, ty_ag_9, Try.results52, hc, hr, hx, hne, hp1, hp2, nodeC, kC, vD]))
    | ((first | with_reducible refine WP_cond ?_ | with_reducible refine WP_ret ?_ | ((with_reducible refine SQr rfl ?_); intro rest hrest)); simp only [EV2, EVB, stepH, gdOf, modeOf, effD, opD, putD, ofV, ofV1, D.cells, D.lay, D.one, condP, Exit.sel, Exit.blk, RetP, oneOf, resD, putAt, nilD, extrD, fillD, buildD, mapPutD, mapDelD, mapEntD, entPutD, newMapD, moveD, boundD, makeD, appendD, liveD, reduceCtorEq, if_true, if_false, ne_eq, ty_fd_91_2, ty_sz_87, ty_ag_87, ty_fd_89_5, ty_pt_87, ty_sz_89, ty_fd_89_2, ty_sz_4, ty_ag_4, ty_fd_89_3, ty_sz_3, ty_ag_3, ty_ki_3, ty_fd_89_0, ty_sz_9, ty_ag_9, Try.results52, hc, hr, hx, hne, hp1, hp2, nodeC, kC, vD])
    | with_reducible refine WP_block ?_
    | ((with_reducible refine WP_exit ?_); simp only [Exit.sel, Exit.blk, reduceIte, eq_self, Nat.reduceEqDiff, Nat.zero_ne_one, Nat.one_ne_zero])
    | ((with_reducible refine hrest _ ?_); clear hrest rest)
    | with_reducible refine WP_reg (fun _ => none) (fun _ => 0) (gamma0 _) ?_
    | with_reducible refine WP_draw (fun _ => none) (fun _ => 0) (gamma0 _) (by kernel_rfl) (by kernel_rfl) ?_
    | ((with_reducible refine ifP (fun _ => ?_) (fun _ => ?_)) <;> try (exfalso; omega))
    | (with_reducible refine And.intro ?_ ?_)
    | ((with_reducible refine (id ?_ : (_ : Nat) ≤ _)); omega))
        rw [hn]
        exact ih (k + 1) _ ⟨by omega, hb'⟩ (by omega) ⟨by (repeat (first | with_reducible exact WkL.nil | with_reducible refine WkL.any ?_ | with_reducible refine WkL.same ?_ | refine WkL.eq ?_ (intw_eq (by omega) (by omega) (by omega)) | refine WkL.eq ?_ (int_eq (by omega)) | refine WkL.eq ?_ (by first | rfl | (simp; done)))), fun _ => .inl rfl⟩
      · have hp1 : (en (ids.getD k r)).dirty = true := by simpa using hp1
        repeat' (first
    | with_reducible refine WP_seq ?_
    | ((first | with_reducible refine WP_skip ?_ | with_reducible refine SQ_nil ?_); (first | simp only [Exit.sel, Exit.blk] | simp only [EV2, EVB, stepH, gdOf, modeOf, effD, opD, putD, ofV, ofV1, D.cells, D.lay, D.one, condP, Exit.sel, Exit.blk, RetP, oneOf, resD, putAt, nilD, extrD, fillD, buildD, mapPutD, mapDelD, mapEntD, entPutD, newMapD, moveD, boundD, makeD, appendD, liveD, reduceCtorEq, if_true, if_false, ne_eq, ty_fd_91_2, ty_sz_87, ty_ag_87, ty_fd_89_5, ty_pt_87, ty_sz_89, ty_fd_89_2, ty_sz_4, ty_ag_4, ty_fd_89_3, ty_sz_3, ty_ag_3, ty_ki_3, ty_fd_89_0, ty_sz_9, ty_ag_9, Try.results52, hc, hr, hx, hne, hp1, nodeC, kC, vD]))
    | ((first | with_reducible refine WP_cond ?_ | with_reducible refine WP_ret ?_ | ((with_reducible refine SQr rfl ?_); intro rest hrest)); simp only [EV2, EVB, stepH, gdOf, modeOf, effD, opD, putD, ofV, ofV1, D.cells, D.lay, D.one, condP, Exit.sel, Exit.blk, RetP, oneOf, resD, putAt, nilD, extrD, fillD, buildD, mapPutD, mapDelD, mapEntD, entPutD, newMapD, moveD, boundD, makeD, appendD, liveD, reduceCtorEq, if_true, if_false, ne_eq, ty_fd_91_2, ty_sz_87, ty_ag_87, ty_fd_89_5, ty_pt_87, ty_sz_89, ty_fd_89_2, ty_sz_4, ty_ag_4, ty_fd_89_3, ty_sz_3, ty_ag_3, ty_ki_3, ty_fd_89_0, ty_sz_9, ty_ag_9, Try.results52, hc, hr, hx, hne, hp1, nodeC, kC, vD])
    | with_reducible refine WP_block ?_
    | ((with_reducible refine WP_exit ?_); simp only [Exit.sel, Exit.blk, reduceIte, eq_self, Nat.reduceEqDiff, Nat.zero_ne_one, Nat.one_ne_zero])
    | ((with_reducible refine hrest _ ?_); clear hrest rest)
    | with_reducible refine WP_reg (fun _ => none) (fun _ => 0) (gamma0 _) ?_
    | with_reducible refine WP_draw (fun _ => none) (fun _ => 0) (gamma0 _) (by kernel_rfl) (by kernel_rfl) ?_
    | ((with_reducible refine ifP (fun _ => ?_) (fun _ => ?_)) <;> try (exfalso; omega))
    | (with_reducible refine And.intro ?_ ?_)
    | ((with_reducible refine (id ?_ : (_ : Nat) ≤ _)); omega))
        rw [hn]
        exact ih (k + 1) _ ⟨by omega, hb'⟩ (by omega) ⟨by (repeat (first | with_reducible exact WkL.nil | with_reducible refine WkL.any ?_ | with_reducible refine WkL.same ?_ | refine WkL.eq ?_ (intw_eq (by omega) (by omega) (by omega)) | refine WkL.eq ?_ (int_eq (by omega)) | refine WkL.eq ?_ (by first | rfl | (simp; done)))), fun _ => .inl rfl⟩
  · have he := node_end (r := r) hlt
    have hall : ∀ e ∈ ids.map en, ¬ free e = true := by
      intro e he
      obtain ⟨i, hi, rfl⟩ := List.mem_map.1 he
      simp [hb i (by rw [List.take_of_length_le (by omega)]; exact hi)]
    rw [he]
    repeat' (first
    | with_reducible refine WP_seq ?_
    | ((first | with_reducible refine WP_skip ?_ | with_reducible refine SQ_nil ?_); (first | simp only [Exit.sel, Exit.blk] | simp only [EV2, EVB, stepH, gdOf, modeOf, effD, opD, putD, ofV, ofV1, D.cells, D.lay, D.one, condP, Exit.sel, Exit.blk, RetP, oneOf, resD, putAt, nilD, extrD, fillD, buildD, mapPutD, mapDelD, mapEntD, entPutD, newMapD, moveD, boundD, makeD, appendD, liveD, reduceCtorEq, if_true, if_false, ne_eq, ty_fd_91_2, ty_sz_87, ty_ag_87, ty_fd_89_5, ty_pt_87, ty_sz_89, ty_fd_89_2, ty_sz_4, ty_ag_4, ty_fd_89_3, ty_sz_3, ty_ag_3, ty_ki_3, ty_fd_89_0, ty_sz_9, ty_ag_9, Try.results52, hc, hr, nodeC, kC, vD]))
    | ((first | with_reducible refine WP_cond ?_ | with_reducible refine WP_ret ?_ | ((with_reducible refine SQr rfl ?_); intro rest hrest)); simp only [EV2, EVB, stepH, gdOf, modeOf, effD, opD, putD, ofV, ofV1, D.cells, D.lay, D.one, condP, Exit.sel, Exit.blk, RetP, oneOf, resD, putAt, nilD, extrD, fillD, buildD, mapPutD, mapDelD, mapEntD, entPutD, newMapD, moveD, boundD, makeD, appendD, liveD, reduceCtorEq, if_true, if_false, ne_eq, ty_fd_91_2, ty_sz_87, ty_ag_87, ty_fd_89_5, ty_pt_87, ty_sz_89, ty_fd_89_2, ty_sz_4, ty_ag_4, ty_fd_89_3, ty_sz_3, ty_ag_3, ty_ki_3, ty_fd_89_0, ty_sz_9, ty_ag_9, Try.results52, hc, hr, nodeC, kC, vD])
    | with_reducible refine WP_block ?_
    | ((with_reducible refine WP_exit ?_); simp only [Exit.sel, Exit.blk, reduceIte, eq_self, Nat.reduceEqDiff, Nat.zero_ne_one, Nat.one_ne_zero])
    | ((with_reducible refine hrest _ ?_); clear hrest rest)
    | with_reducible refine WP_reg (fun _ => none) (fun _ => 0) (gamma0 _) ?_
    | with_reducible refine WP_draw (fun _ => none) (fun _ => 0) (gamma0 _) (by kernel_rfl) (by kernel_rfl) ?_
    | ((with_reducible refine ifP (fun _ => ?_) (fun _ => ?_)) <;> try (exfalso; omega))
    | (with_reducible refine And.intro ?_ ?_)
    | ((with_reducible refine (id ?_ : (_ : Nat) ≤ _)); omega))
    · rw [List.any_eq_false.2 hall]
    · rw [List.eraseP_of_forall_not hall]
      exact ⟨_, H0, .refl _ _⟩

/-- The keys. -/
def keysL (all : Bool) (L : List Ent) : List Key := (L.filter fun e => all || e.dirty).map Ent.key



end Go.Proofs.Ytcjndiagbdkikaa.S

namespace Go.Proofs.Ytcjndiagbdkikaa.S

theorem Fr.trans {h h2 h3 : Heap} {F F2 F3 : List Nat} (a : Fr h h2 F F2) (b : Fr h2 h3 F2 F3) : Fr h h3 F F3 := by
  refine ⟨fun i hi hn => ?_, fun i hi => ?_⟩
  · have h2i := a.keep i hi hn
    rw [b.keep i (fun e => (a.foot i e).elim hi hn) (by rw [h2i]; exact hn), h2i]
  · rcases b.foot i hi with h1 | h1
    · exact a.foot i h1
    · by_cases hF : i ∈ F
      · exact .inl hF
      · by_cases hn : h i = none
        · exact .inr hn
        · rw [a.keep i hF hn] at h1; exact absurd h1 hn

/-- Used, with a new value. -/
theorem Ca.touch {h h1 : Heap} {c m r : Nat} {n : Int} {ids : List Nat} {en : Nat → Ent} (H : Ca h c m r n ids en) {k : Key} {i : Nat} (hl : lk k ids en = some i) {e : Ent} (he : e.key = (en i).key) {pv nx : Nat → Nat} (R : Rg h r ids en pv nx)
    (hf : ∀ j, j ≠ i → h1 j = h j) (hv : h1 i = some (.cells (nodeC e (pv i) (nx i)))) :
    CallsA Try.prog 53 [.ptr c 0, .ptr i 0] h1 fun _ h' => ∃ F', CaL h' c F' n (rem k (ids.map en) ++ [e]) ∧ Fr h h' (c :: m :: r :: ids) F' := by
  have H1 := H.set (lk_some hl).1 he R hf hv
  obtain ⟨hi, hk⟩ := lk_some hl
  obtain ⟨pv', nx', R1⟩ := H1.rg
  refine (use_in H1.hc R1 H1.ne.1 hi).mono fun _ h2 ⟨R2, hf2⟩ => ?_
  have hni : ∀ j, j ∉ r :: ids → j ≠ i := fun j hj e => hj (by simp [e, hi])
  refine ⟨_, ⟨m, r, _, _, H1.perm (perm_use hi) hf2 R2, rfl, ?_⟩, ⟨fun j hj _ => ?_, fun j hj => .inl ?_⟩⟩
  · rw [rem_map hl, List.map_append]
    congr 1
    · refine List.map_congr_left fun j hj => ?_
      have : j ≠ i := fun e => by
        have hn := (List.nodup_cons.1 R.un).2
        subst e; exact (List.Nodup.not_mem_erase hn) hj
      simp [this]
    · simp
  · have hj' : j ∉ r :: ids := fun e => hj (by simp only [List.mem_cons] at e ⊢; exact .inr (.inr e))
    rw [hf2 j hj', hf j (hni j hj')]
  · simp only [List.mem_cons, (perm_use hi).mem_iff] at hj ⊢; exact hj

/-- A new entry. -/
theorem Ca.insert {h h1 : Heap} {c m r x : Nat} {n : Int} {ids : List Nat} {en : Nat → Ent} (H : Ca h c m r n ids en) {k : Key} (hl : lk k ids en = none) {e : Ent} (he : e.key = k) (hx : h x = none)
    {mes : List ME} {clock : Nat} {pr : List (Key × Nat)} (g1 : mes.map pk = pr.map pd) (g2 : pr.Perm (ids.map fun i => ((en i).key, i)))
    (hm : h1 m = some (.map (putM (kD k) (.ptr x 0) clock mes).1 (putM (kD k) (.ptr x 0) clock mes).2))
    (hv : h1 x = some (.cells (kC e.key ++ [vD e.val, .bool e.dirty, .int .i64 e.pins, .nilp, .nilp]))) (hf : ∀ j, j ≠ m → j ≠ x → h1 j = h j) :
    CallsA Try.prog 53 [.ptr c 0, .ptr x 0] h1 fun _ h' => ∃ F', CaL h' c F' n (ids.map en ++ [e]) ∧ Fr h h' (c :: m :: r :: ids) F' := by
  obtain ⟨n1, n2, n3⟩ := H.ne
  obtain ⟨pv, nx, R⟩ := H.rg
  have hcx : c ≠ x := fun e => by have := H.hc; rw [e, hx] at this; simp at this
  have hxr : x ∉ r :: ids := fun e => by have := R.nd x e; rw [hx] at this; simp at this
  have hxm : x ≠ m := fun e => by
    obtain ⟨a, b, _, hm0, _⟩ := H.mp
    rw [← e, hx] at hm0; simp at hm0
  have hen : ∀ i ∈ r :: ids, (if i = x then e else en i) = en i := fun i hi => by
    have : i ≠ x := fun e => hxr (e ▸ hi)
    simp [this]
  have hen' : ∀ i ∈ ids, (if i = x then e else en i) = en i := fun i hi => hen i (List.mem_cons_of_mem _ hi)
  have hmr : ∀ y ∈ r :: ids, y ≠ m := fun y hy e => n2 (e ▸ hy)
  have hxr' : ∀ y ∈ r :: ids, y ≠ x := fun y hy e => hxr (e ▸ hy)
  have R1 : Rg h1 r ids (fun i => if i = x then e else en i) pv nx := ⟨fun y hy => by
    rw [hf y (hmr y hy) (hxr' y hy), R.nd y hy]; simp only [hen y hy], R.ch, R.un⟩
  have hc1 : h1 c = some (.cells [.int .i64 n, .mp m, .ptr r 0]) := by rw [hf c n3 hcx]; exact H.hc
  refine (use_new hc1 R1 (fun e => ?_) hxr (by simpa using hv)).mono fun _ h2 ⟨R2, hf2⟩ => ?_
  · simp only [List.mem_cons] at e n1
    rcases e with e | e | e
    · exact n1 (.inl e)
    · exact hcx e
    · exact n1 (.inr e)
  have hc' : c ∉ r :: x :: ids := fun e => by
    simp only [List.mem_cons] at e n1
    rcases e with e | e | e
    · exact n1 (.inl e)
    · exact hcx e
    · exact n1 (.inr e)
  have hm' : m ∉ r :: x :: ids := fun e => by
    simp only [List.mem_cons] at e n2
    rcases e with e | e | e
    · exact n2 (.inl e)
    · exact hxm e.symm
    · exact n2 (.inr e)
  have hpn : ∀ p ∈ pr, p.1 ≠ k := fun p hp => by
    obtain ⟨i, hi, rfl⟩ := List.mem_map.1 (g2.mem_iff.1 hp)
    exact lk_none hl i hi
  have hperm : (ids ++ [x]).Perm (x :: ids) := List.perm_append_comm (l₁ := ids) (l₂ := [x])
  have hmk : (ids.map fun i => (if i = x then e else en i).key) = ids.map fun i => (en i).key := List.map_congr_left fun i hi => by rw [hen' i hi]
  have hmp : (ids.map fun i => ((if i = x then e else en i).key, i)) = ids.map fun i => ((en i).key, i) := List.map_congr_left fun i hi => by rw [hen' i hi]
  refine ⟨_, ⟨m, r, _, fun i => if i = x then e else en i, ⟨by rw [hf2 c hc']; exact hc1, ⟨_, _, _, by rw [hf2 m hm']; exact hm, putM_pr k x clock mes pr g1 hpn, ?_⟩, R2, ?_⟩, rfl, ?_⟩, ⟨fun j hj hjn => ?_, fun j hj => ?_⟩⟩
  · rw [List.map_append, hmp]
    simp only [List.map_cons, List.map_nil, if_true, he]
    exact g2.append_right _
  · rw [List.map_append, hmk]
    simp only [List.map_cons, List.map_nil, if_true, he]
    refine List.nodup_append.2 ⟨H.ky, by simp, fun a ha b hb e2 => ?_⟩
    obtain ⟨i, hi, rfl⟩ := List.mem_map.1 ha
    simp at hb
    exact lk_none hl i hi (by rw [e2, hb])
  · rw [List.map_append]
    congr 1
    · exact (List.map_congr_left fun i hi => hen' i hi).symm
    · simp
  · simp only [List.mem_cons, not_or] at hj
    have hjx : j ≠ x := fun e => hjn (e ▸ hx)
    rw [hf2 j (by simp only [List.mem_cons, not_or]; exact ⟨hj.2.2.1, hjx, hj.2.2.2⟩), hf j hj.2.1 hjx]
  · simp only [List.mem_cons, List.mem_append, List.not_mem_nil, or_false] at hj ⊢
    rcases hj with h | h | h | h | h
    · exact .inl (.inl h)
    · exact .inl (.inr (.inl h))
    · exact .inl (.inr (.inr (.inl h)))
    · exact .inl (.inr (.inr (.inr h)))
    · exact .inr (by rw [h]; exact hx)

def putL (k : Key) (v : Val) (dirty : Bool) (n : Int) (L : List Ent) : Int × List Ent := match fnd k L with
  | some e => (0, rem k L ++ [{ e with val := v, dirty := e.dirty || dirty }])
  | none => if (L.length : Int) = n then (if L.any free = true then (0, L.eraseP free ++ [⟨k, v, dirty, 0⟩]) else (4, L)) else (0, L ++ [⟨k, v, dirty, 0⟩])

theorem put_nil (h : Heap) (k : Key) (v : Val) (dirty : Bool) : CallsA Try.prog 33 [.nilp, kD k, vD v, .bool dirty] h fun d h' => d = .int .i64 2 ∧ h' = h := by
  refine CallsA_body Try.func33 rfl en_33 ?_
  simp only [Try.ntmps33, List.length_cons, List.length_nil, List.replicate]
  repeat' (first
    | with_reducible refine WP_seq ?_
    | ((first | with_reducible refine WP_skip ?_ | with_reducible refine SQ_nil ?_); (first | simp only [Exit.sel, Exit.blk] | simp only [EV2, EVB, stepH, gdOf, modeOf, effD, opD, putD, ofV, ofV1, D.cells, D.lay, D.one, condP, Exit.sel, Exit.blk, RetP, oneOf, resD, putAt, nilD, extrD, fillD, buildD, mapPutD, mapDelD, mapEntD, entPutD, newMapD, moveD, boundD, makeD, appendD, liveD, reduceCtorEq, if_true, if_false, ne_eq, ty_pt_60, ty_sz_91, ty_pt_87, ty_sz_89, ty_fd_91_1, ty_sz_86, ty_ag_86, ty_mu_86, ty_ma_86, ty_fd_91_0, ty_sz_3, ty_ag_3, ty_ki_3, ty_zc_89, ty_pl_89, ty_ar_89, ty_zr_87, ty_st_9, ty_fd_89_2, ty_sz_4, ty_ag_4, ty_fd_89_1, Try.results33]))
    | ((first | with_reducible refine WP_cond ?_ | with_reducible refine WP_ret ?_ | ((with_reducible refine SQr rfl ?_); intro rest hrest)); simp only [EV2, EVB, stepH, gdOf, modeOf, effD, opD, putD, ofV, ofV1, D.cells, D.lay, D.one, condP, Exit.sel, Exit.blk, RetP, oneOf, resD, putAt, nilD, extrD, fillD, buildD, mapPutD, mapDelD, mapEntD, entPutD, newMapD, moveD, boundD, makeD, appendD, liveD, reduceCtorEq, if_true, if_false, ne_eq, ty_pt_60, ty_sz_91, ty_pt_87, ty_sz_89, ty_fd_91_1, ty_sz_86, ty_ag_86, ty_mu_86, ty_ma_86, ty_fd_91_0, ty_sz_3, ty_ag_3, ty_ki_3, ty_zc_89, ty_pl_89, ty_ar_89, ty_zr_87, ty_st_9, ty_fd_89_2, ty_sz_4, ty_ag_4, ty_fd_89_1, Try.results33])
    | with_reducible refine WP_block ?_
    | ((with_reducible refine WP_exit ?_); simp only [Exit.sel, Exit.blk, reduceIte, eq_self, Nat.reduceEqDiff, Nat.zero_ne_one, Nat.one_ne_zero])
    | ((with_reducible refine hrest _ ?_); clear hrest rest)
    | with_reducible refine WP_reg (fun _ => none) (fun _ => 0) (gamma0 _) ?_
    | with_reducible refine WP_draw (fun _ => none) (fun _ => 0) (gamma0 _) (by kernel_rfl) (by kernel_rfl) ?_
    | ((with_reducible refine ifP (fun _ => ?_) (fun _ => ?_)) <;> try (exfalso; omega))
    | (with_reducible refine And.intro ?_ ?_)
    | ((with_reducible refine (id ?_ : (_ : Nat) ≤ _)); omega))
  all_goals rfl

theorem put_calls {h : Heap} {c : Nat} {F : List Nat} {n : Int} {L : List Ent} (H : CaL h c F n L) (k : Key) (v : Val) (dirty : Bool) :
    CallsA Try.prog 33 [.ptr c 0, kD k, vD v, .bool dirty] h fun d h' => d = .int .i64 (putL k v dirty n L).1 ∧ ∃ F', CaL h' c F' n (putL k v dirty n L).2 ∧ Fr h h' F F' := by
  have H0 := H
  obtain ⟨m, r, ids, en, H, rfl, rfl⟩ := H
  obtain ⟨mes, clock, pr, hm, h1, h2⟩ := H.mp
  have hc := H.hc
  have hlen : mes.length = ids.length := by
    have := congrArg List.length h1
    simp only [List.length_map] at this
    rw [this, h2.length_eq, List.length_map]
  rw [putL, fnd_map]
  refine CallsA_body Try.func33 rfl en_33 ?_
  simp only [Try.ntmps33, List.length_cons, List.length_nil, List.replicate]
  repeat' (first
    | with_reducible refine WP_seq ?_
    | ((first | with_reducible refine WP_skip ?_ | with_reducible refine SQ_nil ?_); (first | simp only [Exit.sel, Exit.blk] | simp only [EV2, EVB, stepH, gdOf, modeOf, effD, opD, putD, ofV, ofV1, D.cells, D.lay, D.one, condP, Exit.sel, Exit.blk, RetP, oneOf, resD, putAt, nilD, extrD, fillD, buildD, mapPutD, mapDelD, mapEntD, entPutD, newMapD, moveD, boundD, makeD, appendD, liveD, reduceCtorEq, if_true, if_false, ne_eq, ty_pt_60, ty_sz_91, ty_pt_87, ty_sz_89, ty_fd_91_1, ty_sz_86, ty_ag_86, ty_mu_86, ty_ma_86, ty_fd_91_0, ty_sz_3, ty_ag_3, ty_ki_3, ty_zc_89, ty_pl_89, ty_ar_89, ty_zr_87, ty_st_9, ty_fd_89_2, ty_sz_4, ty_ag_4, ty_fd_89_1, Try.results33]))
    | ((first | with_reducible refine WP_cond ?_ | with_reducible refine WP_ret ?_ | ((with_reducible refine SQr rfl ?_); intro rest hrest)); simp only [EV2, EVB, stepH, gdOf, modeOf, effD, opD, putD, ofV, ofV1, D.cells, D.lay, D.one, condP, Exit.sel, Exit.blk, RetP, oneOf, resD, putAt, nilD, extrD, fillD, buildD, mapPutD, mapDelD, mapEntD, entPutD, newMapD, moveD, boundD, makeD, appendD, liveD, reduceCtorEq, if_true, if_false, ne_eq, ty_pt_60, ty_sz_91, ty_pt_87, ty_sz_89, ty_fd_91_1, ty_sz_86, ty_ag_86, ty_mu_86, ty_ma_86, ty_fd_91_0, ty_sz_3, ty_ag_3, ty_ki_3, ty_zc_89, ty_pl_89, ty_ar_89, ty_zr_87, ty_st_9, ty_fd_89_2, ty_sz_4, ty_ag_4, ty_fd_89_1, Try.results33])
    | with_reducible refine WP_block ?_
    | ((with_reducible refine WP_exit ?_); simp only [Exit.sel, Exit.blk, reduceIte, eq_self, Nat.reduceEqDiff, Nat.zero_ne_one, Nat.one_ne_zero])
    | ((with_reducible refine hrest _ ?_); clear hrest rest)
    | with_reducible refine WP_reg (fun _ => none) (fun _ => 0) (gamma0 _) ?_
    | with_reducible refine WP_draw (fun _ => none) (fun _ => 0) (gamma0 _) (by kernel_rfl) (by kernel_rfl) ?_
    | ((with_reducible refine ifP (fun _ => ?_) (fun _ => ?_)) <;> try (exfalso; omega))
    | (with_reducible refine And.intro ?_ ?_)
    | ((with_reducible refine (id ?_ : (_ : Nat) ≤ _)); omega))
  refine (find_calls H k).mono fun d h' ⟨hd, hh⟩ => ?_
  subst hd hh
  (with_reducible refine hrest _ ?_); clear hrest rest
  cases hl : lk k ids en with
  | some i =>
    simp only [Option.map_some, Option.getD_some]
    obtain ⟨hi, hk⟩ := lk_some hl
    obtain ⟨pv, nx, R⟩ := H.rg
    have hx := R.nd i (by simp [hi])
    by_cases hp : (en i).dirty = true
    · repeat' (first
    | with_reducible refine WP_seq ?_
    | ((first | with_reducible refine WP_skip ?_ | with_reducible refine SQ_nil ?_); (first | simp only [Exit.sel, Exit.blk] | simp only [EV2, EVB, stepH, gdOf, modeOf, effD, opD, putD, ofV, ofV1, D.cells, D.lay, D.one, condP, Exit.sel, Exit.blk, RetP, oneOf, resD, putAt, nilD, extrD, fillD, buildD, mapPutD, mapDelD, mapEntD, entPutD, newMapD, moveD, boundD, makeD, appendD, liveD, reduceCtorEq, if_true, if_false, ne_eq, ty_pt_60, ty_sz_91, ty_pt_87, ty_sz_89, ty_fd_91_1, ty_sz_86, ty_ag_86, ty_mu_86, ty_ma_86, ty_fd_91_0, ty_sz_3, ty_ag_3, ty_ki_3, ty_zc_89, ty_pl_89, ty_ar_89, ty_zr_87, ty_st_9, ty_fd_89_2, ty_sz_4, ty_ag_4, ty_fd_89_1, Try.results33, hx, nodeC, kC, vD, hp]))
    | ((first | with_reducible refine WP_cond ?_ | with_reducible refine WP_ret ?_ | ((with_reducible refine SQr rfl ?_); intro rest hrest)); simp only [EV2, EVB, stepH, gdOf, modeOf, effD, opD, putD, ofV, ofV1, D.cells, D.lay, D.one, condP, Exit.sel, Exit.blk, RetP, oneOf, resD, putAt, nilD, extrD, fillD, buildD, mapPutD, mapDelD, mapEntD, entPutD, newMapD, moveD, boundD, makeD, appendD, liveD, reduceCtorEq, if_true, if_false, ne_eq, ty_pt_60, ty_sz_91, ty_pt_87, ty_sz_89, ty_fd_91_1, ty_sz_86, ty_ag_86, ty_mu_86, ty_ma_86, ty_fd_91_0, ty_sz_3, ty_ag_3, ty_ki_3, ty_zc_89, ty_pl_89, ty_ar_89, ty_zr_87, ty_st_9, ty_fd_89_2, ty_sz_4, ty_ag_4, ty_fd_89_1, Try.results33, hx, nodeC, kC, vD, hp])
    | with_reducible refine WP_block ?_
    | ((with_reducible refine WP_exit ?_); simp only [Exit.sel, Exit.blk, reduceIte, eq_self, Nat.reduceEqDiff, Nat.zero_ne_one, Nat.one_ne_zero])
    | ((with_reducible refine hrest _ ?_); clear hrest rest)
    | with_reducible refine WP_reg (fun _ => none) (fun _ => 0) (gamma0 _) ?_
    | with_reducible refine WP_draw (fun _ => none) (fun _ => 0) (gamma0 _) (by kernel_rfl) (by kernel_rfl) ?_
    | ((with_reducible refine ifP (fun _ => ?_) (fun _ => ?_)) <;> try (exfalso; omega))
    | (with_reducible refine And.intro ?_ ?_)
    | ((with_reducible refine (id ?_ : (_ : Nat) ≤ _)); omega))
      refine (Ca.touch (h := h') (e := { en i with val := v, dirty := true }) H hl rfl R (fun j hj => ?_) ?_).mono fun _ h3 hd => ?_
      · rw [Heap.upd_ne _ _ hj, Heap.upd_ne _ _ hj]
      · rw [Heap.upd_same]; rfl
      repeat' (first
    | with_reducible refine WP_seq ?_
    | ((first | with_reducible refine WP_skip ?_ | with_reducible refine SQ_nil ?_); (first | simp only [Exit.sel, Exit.blk] | simp only [EV2, EVB, stepH, gdOf, modeOf, effD, opD, putD, ofV, ofV1, D.cells, D.lay, D.one, condP, Exit.sel, Exit.blk, RetP, oneOf, resD, putAt, nilD, extrD, fillD, buildD, mapPutD, mapDelD, mapEntD, entPutD, newMapD, moveD, boundD, makeD, appendD, liveD, reduceCtorEq, if_true, if_false, ne_eq, ty_pt_60, ty_sz_91, ty_pt_87, ty_sz_89, ty_fd_91_1, ty_sz_86, ty_ag_86, ty_mu_86, ty_ma_86, ty_fd_91_0, ty_sz_3, ty_ag_3, ty_ki_3, ty_zc_89, ty_pl_89, ty_ar_89, ty_zr_87, ty_st_9, ty_fd_89_2, ty_sz_4, ty_ag_4, ty_fd_89_1, Try.results33]))
    | ((first | with_reducible refine WP_cond ?_ | with_reducible refine WP_ret ?_ | ((with_reducible refine SQr rfl ?_); intro rest hrest)); simp only [EV2, EVB, stepH, gdOf, modeOf, effD, opD, putD, ofV, ofV1, D.cells, D.lay, D.one, condP, Exit.sel, Exit.blk, RetP, oneOf, resD, putAt, nilD, extrD, fillD, buildD, mapPutD, mapDelD, mapEntD, entPutD, newMapD, moveD, boundD, makeD, appendD, liveD, reduceCtorEq, if_true, if_false, ne_eq, ty_pt_60, ty_sz_91, ty_pt_87, ty_sz_89, ty_fd_91_1, ty_sz_86, ty_ag_86, ty_mu_86, ty_ma_86, ty_fd_91_0, ty_sz_3, ty_ag_3, ty_ki_3, ty_zc_89, ty_pl_89, ty_ar_89, ty_zr_87, ty_st_9, ty_fd_89_2, ty_sz_4, ty_ag_4, ty_fd_89_1, Try.results33])
    | with_reducible refine WP_block ?_
    | ((with_reducible refine WP_exit ?_); simp only [Exit.sel, Exit.blk, reduceIte, eq_self, Nat.reduceEqDiff, Nat.zero_ne_one, Nat.one_ne_zero])
    | ((with_reducible refine hrest _ ?_); clear hrest rest)
    | with_reducible refine WP_reg (fun _ => none) (fun _ => 0) (gamma0 _) ?_
    | with_reducible refine WP_draw (fun _ => none) (fun _ => 0) (gamma0 _) (by kernel_rfl) (by kernel_rfl) ?_
    | ((with_reducible refine ifP (fun _ => ?_) (fun _ => ?_)) <;> try (exfalso; omega))
    | (with_reducible refine And.intro ?_ ?_)
    | ((with_reducible refine (id ?_ : (_ : Nat) ≤ _)); omega))
      simp only [hp, Bool.true_or]; exact hd
    · have hp : (en i).dirty = false := by simpa using hp
      repeat' (first
    | with_reducible refine WP_seq ?_
    | ((first | with_reducible refine WP_skip ?_ | with_reducible refine SQ_nil ?_); (first | simp only [Exit.sel, Exit.blk] | simp only [EV2, EVB, stepH, gdOf, modeOf, effD, opD, putD, ofV, ofV1, D.cells, D.lay, D.one, condP, Exit.sel, Exit.blk, RetP, oneOf, resD, putAt, nilD, extrD, fillD, buildD, mapPutD, mapDelD, mapEntD, entPutD, newMapD, moveD, boundD, makeD, appendD, liveD, reduceCtorEq, if_true, if_false, ne_eq, ty_pt_60, ty_sz_91, ty_pt_87, ty_sz_89, ty_fd_91_1, ty_sz_86, ty_ag_86, ty_mu_86, ty_ma_86, ty_fd_91_0, ty_sz_3, ty_ag_3, ty_ki_3, ty_zc_89, ty_pl_89, ty_ar_89, ty_zr_87, ty_st_9, ty_fd_89_2, ty_sz_4, ty_ag_4, ty_fd_89_1, Try.results33, hx, nodeC, kC, vD, hp]))
    | ((first | with_reducible refine WP_cond ?_ | with_reducible refine WP_ret ?_ | ((with_reducible refine SQr rfl ?_); intro rest hrest)); simp only [EV2, EVB, stepH, gdOf, modeOf, effD, opD, putD, ofV, ofV1, D.cells, D.lay, D.one, condP, Exit.sel, Exit.blk, RetP, oneOf, resD, putAt, nilD, extrD, fillD, buildD, mapPutD, mapDelD, mapEntD, entPutD, newMapD, moveD, boundD, makeD, appendD, liveD, reduceCtorEq, if_true, if_false, ne_eq, ty_pt_60, ty_sz_91, ty_pt_87, ty_sz_89, ty_fd_91_1, ty_sz_86, ty_ag_86, ty_mu_86, ty_ma_86, ty_fd_91_0, ty_sz_3, ty_ag_3, ty_ki_3, ty_zc_89, ty_pl_89, ty_ar_89, ty_zr_87, ty_st_9, ty_fd_89_2, ty_sz_4, ty_ag_4, ty_fd_89_1, Try.results33, hx, nodeC, kC, vD, hp])
    | with_reducible refine WP_block ?_
    | ((with_reducible refine WP_exit ?_); simp only [Exit.sel, Exit.blk, reduceIte, eq_self, Nat.reduceEqDiff, Nat.zero_ne_one, Nat.one_ne_zero])
    | ((with_reducible refine hrest _ ?_); clear hrest rest)
    | with_reducible refine WP_reg (fun _ => none) (fun _ => 0) (gamma0 _) ?_
    | with_reducible refine WP_draw (fun _ => none) (fun _ => 0) (gamma0 _) (by kernel_rfl) (by kernel_rfl) ?_
    | ((with_reducible refine ifP (fun _ => ?_) (fun _ => ?_)) <;> try (exfalso; omega))
    | (with_reducible refine And.intro ?_ ?_)
    | ((with_reducible refine (id ?_ : (_ : Nat) ≤ _)); omega))
      refine (Ca.touch (h := h') (e := { en i with val := v, dirty := dirty }) H hl rfl R (fun j hj => ?_) ?_).mono fun _ h3 hd => ?_
      · rw [Heap.upd_ne _ _ hj, Heap.upd_ne _ _ hj]
      · rw [Heap.upd_same]; rfl
      repeat' (first
    | with_reducible refine WP_seq ?_
    | ((first | with_reducible refine WP_skip ?_ | with_reducible refine SQ_nil ?_); (first | simp only [Exit.sel, Exit.blk] | simp only [EV2, EVB, stepH, gdOf, modeOf, effD, opD, putD, ofV, ofV1, D.cells, D.lay, D.one, condP, Exit.sel, Exit.blk, RetP, oneOf, resD, putAt, nilD, extrD, fillD, buildD, mapPutD, mapDelD, mapEntD, entPutD, newMapD, moveD, boundD, makeD, appendD, liveD, reduceCtorEq, if_true, if_false, ne_eq, ty_pt_60, ty_sz_91, ty_pt_87, ty_sz_89, ty_fd_91_1, ty_sz_86, ty_ag_86, ty_mu_86, ty_ma_86, ty_fd_91_0, ty_sz_3, ty_ag_3, ty_ki_3, ty_zc_89, ty_pl_89, ty_ar_89, ty_zr_87, ty_st_9, ty_fd_89_2, ty_sz_4, ty_ag_4, ty_fd_89_1, Try.results33]))
    | ((first | with_reducible refine WP_cond ?_ | with_reducible refine WP_ret ?_ | ((with_reducible refine SQr rfl ?_); intro rest hrest)); simp only [EV2, EVB, stepH, gdOf, modeOf, effD, opD, putD, ofV, ofV1, D.cells, D.lay, D.one, condP, Exit.sel, Exit.blk, RetP, oneOf, resD, putAt, nilD, extrD, fillD, buildD, mapPutD, mapDelD, mapEntD, entPutD, newMapD, moveD, boundD, makeD, appendD, liveD, reduceCtorEq, if_true, if_false, ne_eq, ty_pt_60, ty_sz_91, ty_pt_87, ty_sz_89, ty_fd_91_1, ty_sz_86, ty_ag_86, ty_mu_86, ty_ma_86, ty_fd_91_0, ty_sz_3, ty_ag_3, ty_ki_3, ty_zc_89, ty_pl_89, ty_ar_89, ty_zr_87, ty_st_9, ty_fd_89_2, ty_sz_4, ty_ag_4, ty_fd_89_1, Try.results33])
    | with_reducible refine WP_block ?_
    | ((with_reducible refine WP_exit ?_); simp only [Exit.sel, Exit.blk, reduceIte, eq_self, Nat.reduceEqDiff, Nat.zero_ne_one, Nat.one_ne_zero])
    | ((with_reducible refine hrest _ ?_); clear hrest rest)
    | with_reducible refine WP_reg (fun _ => none) (fun _ => 0) (gamma0 _) ?_
    | with_reducible refine WP_draw (fun _ => none) (fun _ => 0) (gamma0 _) (by kernel_rfl) (by kernel_rfl) ?_
    | ((with_reducible refine ifP (fun _ => ?_) (fun _ => ?_)) <;> try (exfalso; omega))
    | (with_reducible refine And.intro ?_ ?_)
    | ((with_reducible refine (id ?_ : (_ : Nat) ≤ _)); omega))
      simp only [hp, Bool.false_or]; exact hd
  | none =>
    simp only [Option.map_none, Option.getD_none, List.length_map]
    by_cases hn : (ids.length : Int) = n
    · repeat' (first
    | with_reducible refine WP_seq ?_
    | ((first | with_reducible refine WP_skip ?_ | with_reducible refine SQ_nil ?_); (first | simp only [Exit.sel, Exit.blk] | simp only [EV2, EVB, stepH, gdOf, modeOf, effD, opD, putD, ofV, ofV1, D.cells, D.lay, D.one, condP, Exit.sel, Exit.blk, RetP, oneOf, resD, putAt, nilD, extrD, fillD, buildD, mapPutD, mapDelD, mapEntD, entPutD, newMapD, moveD, boundD, makeD, appendD, liveD, reduceCtorEq, if_true, if_false, ne_eq, ty_pt_60, ty_sz_91, ty_pt_87, ty_sz_89, ty_fd_91_1, ty_sz_86, ty_ag_86, ty_mu_86, ty_ma_86, ty_fd_91_0, ty_sz_3, ty_ag_3, ty_ki_3, ty_zc_89, ty_pl_89, ty_ar_89, ty_zr_87, ty_st_9, ty_fd_89_2, ty_sz_4, ty_ag_4, ty_fd_89_1, Try.results33, hc, hm, hlen, hn]))
    | ((first | with_reducible refine WP_cond ?_ | with_reducible refine WP_ret ?_ | ((with_reducible refine SQr rfl ?_); intro rest hrest)); simp only [EV2, EVB, stepH, gdOf, modeOf, effD, opD, putD, ofV, ofV1, D.cells, D.lay, D.one, condP, Exit.sel, Exit.blk, RetP, oneOf, resD, putAt, nilD, extrD, fillD, buildD, mapPutD, mapDelD, mapEntD, entPutD, newMapD, moveD, boundD, makeD, appendD, liveD, reduceCtorEq, if_true, if_false, ne_eq, ty_pt_60, ty_sz_91, ty_pt_87, ty_sz_89, ty_fd_91_1, ty_sz_86, ty_ag_86, ty_mu_86, ty_ma_86, ty_fd_91_0, ty_sz_3, ty_ag_3, ty_ki_3, ty_zc_89, ty_pl_89, ty_ar_89, ty_zr_87, ty_st_9, ty_fd_89_2, ty_sz_4, ty_ag_4, ty_fd_89_1, Try.results33, hc, hm, hlen, hn])
    | with_reducible refine WP_block ?_
    | ((with_reducible refine WP_exit ?_); simp only [Exit.sel, Exit.blk, reduceIte, eq_self, Nat.reduceEqDiff, Nat.zero_ne_one, Nat.one_ne_zero])
    | ((with_reducible refine hrest _ ?_); clear hrest rest)
    | with_reducible refine WP_reg (fun _ => none) (fun _ => 0) (gamma0 _) ?_
    | with_reducible refine WP_draw (fun _ => none) (fun _ => 0) (gamma0 _) (by kernel_rfl) (by kernel_rfl) ?_
    | ((with_reducible refine ifP (fun _ => ?_) (fun _ => ?_)) <;> try (exfalso; omega))
    | (with_reducible refine And.intro ?_ ?_)
    | ((with_reducible refine (id ?_ : (_ : Nat) ≤ _)); omega))
      refine (room_calls H0).mono fun d h3 ⟨hd, F2, H2, f2⟩ => ?_
      subst hd
      (with_reducible refine hrest _ ?_); clear hrest rest
      by_cases hf : (ids.map en).any free = true
      · obtain ⟨m2, r2, ids2, en2, H3, rfl, hL⟩ := H2
        have hl2 : lk k ids2 en2 = none := by
          have e1 : fnd k (ids.map en) = none := by rw [fnd_map, hl]; rfl
          have e2 : fnd k (ids2.map en2) = none := by
            rw [← hL]
            exact List.find?_eq_none.2 fun e he => List.find?_eq_none.1 e1 e (List.mem_of_mem_eraseP he)
          rw [fnd_map] at e2
          simpa using e2
        obtain ⟨mes2, clock2, pr2, hm2, g1, g2⟩ := H3.mp
        have hc2 := H3.hc
        simp only [hf, if_true]
        rw [hL]
        try simp only [EV2, EVB, stepH, gdOf, modeOf, effD, opD, putD, ofV, ofV1, D.cells, D.lay, D.one, condP, Exit.sel, Exit.blk, RetP, oneOf, resD, putAt, nilD, extrD, fillD, buildD, mapPutD, mapDelD, mapEntD, entPutD, newMapD, moveD, boundD, makeD, appendD, liveD, reduceCtorEq, if_true, if_false, ne_eq, ty_pt_60, ty_sz_91, ty_pt_87, ty_sz_89, ty_fd_91_1, ty_sz_86, ty_ag_86, ty_mu_86, ty_ma_86, ty_fd_91_0, ty_sz_3, ty_ag_3, ty_ki_3, ty_zc_89, ty_pl_89, ty_ar_89, ty_zr_87, ty_st_9, ty_fd_89_2, ty_sz_4, ty_ag_4, ty_fd_89_1, Try.results33, hf]
        repeat' (first
    | with_reducible refine WP_seq ?_
    | ((first | with_reducible refine WP_skip ?_ | with_reducible refine SQ_nil ?_); (first | simp only [Exit.sel, Exit.blk] | simp only [EV2, EVB, stepH, gdOf, modeOf, effD, opD, putD, ofV, ofV1, D.cells, D.lay, D.one, condP, Exit.sel, Exit.blk, RetP, oneOf, resD, putAt, nilD, extrD, fillD, buildD, mapPutD, mapDelD, mapEntD, entPutD, newMapD, moveD, boundD, makeD, appendD, liveD, reduceCtorEq, if_true, if_false, ne_eq, ty_pt_60, ty_sz_91, ty_pt_87, ty_sz_89, ty_fd_91_1, ty_sz_86, ty_ag_86, ty_mu_86, ty_ma_86, ty_fd_91_0, ty_sz_3, ty_ag_3, ty_ki_3, ty_zc_89, ty_pl_89, ty_ar_89, ty_zr_87, ty_st_9, ty_fd_89_2, ty_sz_4, ty_ag_4, ty_fd_89_1, Try.results33, hf, kC, kD, vD]))
    | ((first | with_reducible refine WP_cond ?_ | with_reducible refine WP_ret ?_ | ((with_reducible refine SQr rfl ?_); intro rest hrest)); simp only [EV2, EVB, stepH, gdOf, modeOf, effD, opD, putD, ofV, ofV1, D.cells, D.lay, D.one, condP, Exit.sel, Exit.blk, RetP, oneOf, resD, putAt, nilD, extrD, fillD, buildD, mapPutD, mapDelD, mapEntD, entPutD, newMapD, moveD, boundD, makeD, appendD, liveD, reduceCtorEq, if_true, if_false, ne_eq, ty_pt_60, ty_sz_91, ty_pt_87, ty_sz_89, ty_fd_91_1, ty_sz_86, ty_ag_86, ty_mu_86, ty_ma_86, ty_fd_91_0, ty_sz_3, ty_ag_3, ty_ki_3, ty_zc_89, ty_pl_89, ty_ar_89, ty_zr_87, ty_st_9, ty_fd_89_2, ty_sz_4, ty_ag_4, ty_fd_89_1, Try.results33, hf, kC, kD, vD])
    | with_reducible refine WP_block ?_
    | ((with_reducible refine WP_exit ?_); simp only [Exit.sel, Exit.blk, reduceIte, eq_self, Nat.reduceEqDiff, Nat.zero_ne_one, Nat.one_ne_zero])
    | ((with_reducible refine hrest _ ?_); clear hrest rest)
    | with_reducible refine WP_reg (fun _ => none) (fun | 34 => 1 | _ => 0) (gamma0 _) ?_
    | with_reducible refine WP_draw (fun _ => none) (fun | 34 => 1 | _ => 0) (gamma0 _) (by kernel_rfl) (by kernel_rfl) ?_
    | ((with_reducible refine ifP (fun _ => ?_) (fun _ => ?_)) <;> try (exfalso; omega))
    | (with_reducible refine And.intro ?_ ?_)
    | ((with_reducible refine (id ?_ : (_ : Nat) ≤ _)); omega))
        intro x hx hx0
        have hcx : c ≠ x := fun e => by rw [e, hx] at hc2; simp at hc2
        have hmx : m2 ≠ x := fun e => by rw [e, hx] at hm2; simp at hm2
        have hxm : x ≠ m2 := fun e => hmx e.symm
        have hcm : c ≠ m2 := H3.ne.2.2
        have hks := fun t ht => keysOk_pr t ht mes2 pr2 g1
        repeat' (first
    | with_reducible refine WP_seq ?_
    | ((first | with_reducible refine WP_skip ?_ | with_reducible refine SQ_nil ?_); (first | simp only [Exit.sel, Exit.blk] | simp only [EV2, EVB, stepH, gdOf, modeOf, effD, opD, putD, ofV, ofV1, D.cells, D.lay, D.one, condP, Exit.sel, Exit.blk, RetP, oneOf, resD, putAt, nilD, extrD, fillD, buildD, mapPutD, mapDelD, mapEntD, entPutD, newMapD, moveD, boundD, makeD, appendD, liveD, reduceCtorEq, if_true, if_false, ne_eq, ty_pt_60, ty_sz_91, ty_pt_87, ty_sz_89, ty_fd_91_1, ty_sz_86, ty_ag_86, ty_mu_86, ty_ma_86, ty_fd_91_0, ty_sz_3, ty_ag_3, ty_ki_3, ty_zc_89, ty_pl_89, ty_ar_89, ty_zr_87, ty_st_9, ty_fd_89_2, ty_sz_4, ty_ag_4, ty_fd_89_1, Try.results33, hc2, hm2, hks, kC, kD, vD, Heap.upd_ne, hcx, hmx, hxm, hcm]))
    | ((first | with_reducible refine WP_cond ?_ | with_reducible refine WP_ret ?_ | ((with_reducible refine SQr rfl ?_); intro rest hrest)); simp only [EV2, EVB, stepH, gdOf, modeOf, effD, opD, putD, ofV, ofV1, D.cells, D.lay, D.one, condP, Exit.sel, Exit.blk, RetP, oneOf, resD, putAt, nilD, extrD, fillD, buildD, mapPutD, mapDelD, mapEntD, entPutD, newMapD, moveD, boundD, makeD, appendD, liveD, reduceCtorEq, if_true, if_false, ne_eq, ty_pt_60, ty_sz_91, ty_pt_87, ty_sz_89, ty_fd_91_1, ty_sz_86, ty_ag_86, ty_mu_86, ty_ma_86, ty_fd_91_0, ty_sz_3, ty_ag_3, ty_ki_3, ty_zc_89, ty_pl_89, ty_ar_89, ty_zr_87, ty_st_9, ty_fd_89_2, ty_sz_4, ty_ag_4, ty_fd_89_1, Try.results33, hc2, hm2, hks, kC, kD, vD, Heap.upd_ne, hcx, hmx, hxm, hcm])
    | with_reducible refine WP_block ?_
    | ((with_reducible refine WP_exit ?_); simp only [Exit.sel, Exit.blk, reduceIte, eq_self, Nat.reduceEqDiff, Nat.zero_ne_one, Nat.one_ne_zero])
    | ((with_reducible refine hrest _ ?_); clear hrest rest)
    | with_reducible refine WP_reg (fun _ => none) (fun | 34 => 1 | _ => 0) (gamma0 _) ?_
    | with_reducible refine WP_draw (fun _ => none) (fun | 34 => 1 | _ => 0) (gamma0 _) (by kernel_rfl) (by kernel_rfl) ?_
    | ((with_reducible refine ifP (fun _ => ?_) (fun _ => ?_)) <;> try (exfalso; omega))
    | (with_reducible refine And.intro ?_ ?_)
    | ((with_reducible refine (id ?_ : (_ : Nat) ≤ _)); omega))
        refine (Ca.insert (h := h3) (clock := clock2) (e := ⟨k, v, dirty, 0⟩) H3 hl2 rfl hx g1 g2 ?_ ?_ fun j hj1 hj2 => ?_).mono fun _ h3 hd => ?_
        · simp [Heap.upd, hmx, kD]
        · simp [Heap.upd, hxm, kC, vD]
        · simp [Heap.upd, hj1, hj2]
        repeat' (first
    | with_reducible refine WP_seq ?_
    | ((first | with_reducible refine WP_skip ?_ | with_reducible refine SQ_nil ?_); (first | simp only [Exit.sel, Exit.blk] | simp only [EV2, EVB, stepH, gdOf, modeOf, effD, opD, putD, ofV, ofV1, D.cells, D.lay, D.one, condP, Exit.sel, Exit.blk, RetP, oneOf, resD, putAt, nilD, extrD, fillD, buildD, mapPutD, mapDelD, mapEntD, entPutD, newMapD, moveD, boundD, makeD, appendD, liveD, reduceCtorEq, if_true, if_false, ne_eq, ty_pt_60, ty_sz_91, ty_pt_87, ty_sz_89, ty_fd_91_1, ty_sz_86, ty_ag_86, ty_mu_86, ty_ma_86, ty_fd_91_0, ty_sz_3, ty_ag_3, ty_ki_3, ty_zc_89, ty_pl_89, ty_ar_89, ty_zr_87, ty_st_9, ty_fd_89_2, ty_sz_4, ty_ag_4, ty_fd_89_1, Try.results33]))
    | ((first | with_reducible refine WP_cond ?_ | with_reducible refine WP_ret ?_ | ((with_reducible refine SQr rfl ?_); intro rest hrest)); simp only [EV2, EVB, stepH, gdOf, modeOf, effD, opD, putD, ofV, ofV1, D.cells, D.lay, D.one, condP, Exit.sel, Exit.blk, RetP, oneOf, resD, putAt, nilD, extrD, fillD, buildD, mapPutD, mapDelD, mapEntD, entPutD, newMapD, moveD, boundD, makeD, appendD, liveD, reduceCtorEq, if_true, if_false, ne_eq, ty_pt_60, ty_sz_91, ty_pt_87, ty_sz_89, ty_fd_91_1, ty_sz_86, ty_ag_86, ty_mu_86, ty_ma_86, ty_fd_91_0, ty_sz_3, ty_ag_3, ty_ki_3, ty_zc_89, ty_pl_89, ty_ar_89, ty_zr_87, ty_st_9, ty_fd_89_2, ty_sz_4, ty_ag_4, ty_fd_89_1, Try.results33])
    | with_reducible refine WP_block ?_
    | ((with_reducible refine WP_exit ?_); simp only [Exit.sel, Exit.blk, reduceIte, eq_self, Nat.reduceEqDiff, Nat.zero_ne_one, Nat.one_ne_zero])
    | ((with_reducible refine hrest _ ?_); clear hrest rest)
    | with_reducible refine WP_reg (fun _ => none) (fun _ => 0) (gamma0 _) ?_
    | with_reducible refine WP_draw (fun _ => none) (fun _ => 0) (gamma0 _) (by kernel_rfl) (by kernel_rfl) ?_
    | ((with_reducible refine ifP (fun _ => ?_) (fun _ => ?_)) <;> try (exfalso; omega))
    | (with_reducible refine And.intro ?_ ?_)
    | ((with_reducible refine (id ?_ : (_ : Nat) ≤ _)); omega))
        obtain ⟨F3, q1, q2⟩ := hd
        exact ⟨F3, q1, f2.trans q2⟩
      · simp only [hf, if_false]
        have e1 : (ids.map en).eraseP free = ids.map en := List.eraseP_of_forall_not fun e he hh => hf (List.any_eq_true.2 ⟨e, he, hh⟩)
        rw [e1] at H2
        try simp only [EV2, EVB, stepH, gdOf, modeOf, effD, opD, putD, ofV, ofV1, D.cells, D.lay, D.one, condP, Exit.sel, Exit.blk, RetP, oneOf, resD, putAt, nilD, extrD, fillD, buildD, mapPutD, mapDelD, mapEntD, entPutD, newMapD, moveD, boundD, makeD, appendD, liveD, reduceCtorEq, if_true, if_false, ne_eq, ty_pt_60, ty_sz_91, ty_pt_87, ty_sz_89, ty_fd_91_1, ty_sz_86, ty_ag_86, ty_mu_86, ty_ma_86, ty_fd_91_0, ty_sz_3, ty_ag_3, ty_ki_3, ty_zc_89, ty_pl_89, ty_ar_89, ty_zr_87, ty_st_9, ty_fd_89_2, ty_sz_4, ty_ag_4, ty_fd_89_1, Try.results33, hf]
        repeat' (first
    | with_reducible refine WP_seq ?_
    | ((first | with_reducible refine WP_skip ?_ | with_reducible refine SQ_nil ?_); (first | simp only [Exit.sel, Exit.blk] | simp only [EV2, EVB, stepH, gdOf, modeOf, effD, opD, putD, ofV, ofV1, D.cells, D.lay, D.one, condP, Exit.sel, Exit.blk, RetP, oneOf, resD, putAt, nilD, extrD, fillD, buildD, mapPutD, mapDelD, mapEntD, entPutD, newMapD, moveD, boundD, makeD, appendD, liveD, reduceCtorEq, if_true, if_false, ne_eq, ty_pt_60, ty_sz_91, ty_pt_87, ty_sz_89, ty_fd_91_1, ty_sz_86, ty_ag_86, ty_mu_86, ty_ma_86, ty_fd_91_0, ty_sz_3, ty_ag_3, ty_ki_3, ty_zc_89, ty_pl_89, ty_ar_89, ty_zr_87, ty_st_9, ty_fd_89_2, ty_sz_4, ty_ag_4, ty_fd_89_1, Try.results33, hf]))
    | ((first | with_reducible refine WP_cond ?_ | with_reducible refine WP_ret ?_ | ((with_reducible refine SQr rfl ?_); intro rest hrest)); simp only [EV2, EVB, stepH, gdOf, modeOf, effD, opD, putD, ofV, ofV1, D.cells, D.lay, D.one, condP, Exit.sel, Exit.blk, RetP, oneOf, resD, putAt, nilD, extrD, fillD, buildD, mapPutD, mapDelD, mapEntD, entPutD, newMapD, moveD, boundD, makeD, appendD, liveD, reduceCtorEq, if_true, if_false, ne_eq, ty_pt_60, ty_sz_91, ty_pt_87, ty_sz_89, ty_fd_91_1, ty_sz_86, ty_ag_86, ty_mu_86, ty_ma_86, ty_fd_91_0, ty_sz_3, ty_ag_3, ty_ki_3, ty_zc_89, ty_pl_89, ty_ar_89, ty_zr_87, ty_st_9, ty_fd_89_2, ty_sz_4, ty_ag_4, ty_fd_89_1, Try.results33, hf])
    | with_reducible refine WP_block ?_
    | ((with_reducible refine WP_exit ?_); simp only [Exit.sel, Exit.blk, reduceIte, eq_self, Nat.reduceEqDiff, Nat.zero_ne_one, Nat.one_ne_zero])
    | ((with_reducible refine hrest _ ?_); clear hrest rest)
    | with_reducible refine WP_reg (fun _ => none) (fun _ => 0) (gamma0 _) ?_
    | with_reducible refine WP_draw (fun _ => none) (fun _ => 0) (gamma0 _) (by kernel_rfl) (by kernel_rfl) ?_
    | ((with_reducible refine ifP (fun _ => ?_) (fun _ => ?_)) <;> try (exfalso; omega))
    | (with_reducible refine And.intro ?_ ?_)
    | ((with_reducible refine (id ?_ : (_ : Nat) ≤ _)); omega))
        exact ⟨_, H2, f2⟩
    · repeat' (first
    | with_reducible refine WP_seq ?_
    | ((first | with_reducible refine WP_skip ?_ | with_reducible refine SQ_nil ?_); (first | simp only [Exit.sel, Exit.blk] | simp only [EV2, EVB, stepH, gdOf, modeOf, effD, opD, putD, ofV, ofV1, D.cells, D.lay, D.one, condP, Exit.sel, Exit.blk, RetP, oneOf, resD, putAt, nilD, extrD, fillD, buildD, mapPutD, mapDelD, mapEntD, entPutD, newMapD, moveD, boundD, makeD, appendD, liveD, reduceCtorEq, if_true, if_false, ne_eq, ty_pt_60, ty_sz_91, ty_pt_87, ty_sz_89, ty_fd_91_1, ty_sz_86, ty_ag_86, ty_mu_86, ty_ma_86, ty_fd_91_0, ty_sz_3, ty_ag_3, ty_ki_3, ty_zc_89, ty_pl_89, ty_ar_89, ty_zr_87, ty_st_9, ty_fd_89_2, ty_sz_4, ty_ag_4, ty_fd_89_1, Try.results33, hc, hm, hlen, hn, kC, kD, vD]))
    | ((first | with_reducible refine WP_cond ?_ | with_reducible refine WP_ret ?_ | ((with_reducible refine SQr rfl ?_); intro rest hrest)); simp only [EV2, EVB, stepH, gdOf, modeOf, effD, opD, putD, ofV, ofV1, D.cells, D.lay, D.one, condP, Exit.sel, Exit.blk, RetP, oneOf, resD, putAt, nilD, extrD, fillD, buildD, mapPutD, mapDelD, mapEntD, entPutD, newMapD, moveD, boundD, makeD, appendD, liveD, reduceCtorEq, if_true, if_false, ne_eq, ty_pt_60, ty_sz_91, ty_pt_87, ty_sz_89, ty_fd_91_1, ty_sz_86, ty_ag_86, ty_mu_86, ty_ma_86, ty_fd_91_0, ty_sz_3, ty_ag_3, ty_ki_3, ty_zc_89, ty_pl_89, ty_ar_89, ty_zr_87, ty_st_9, ty_fd_89_2, ty_sz_4, ty_ag_4, ty_fd_89_1, Try.results33, hc, hm, hlen, hn, kC, kD, vD])
    | with_reducible refine WP_block ?_
    | ((with_reducible refine WP_exit ?_); simp only [Exit.sel, Exit.blk, reduceIte, eq_self, Nat.reduceEqDiff, Nat.zero_ne_one, Nat.one_ne_zero])
    | ((with_reducible refine hrest _ ?_); clear hrest rest)
    | with_reducible refine WP_reg (fun _ => none) (fun | 34 => 1 | _ => 0) (gamma0 _) ?_
    | with_reducible refine WP_draw (fun _ => none) (fun | 34 => 1 | _ => 0) (gamma0 _) (by kernel_rfl) (by kernel_rfl) ?_
    | ((with_reducible refine ifP (fun _ => ?_) (fun _ => ?_)) <;> try (exfalso; omega))
    | (with_reducible refine And.intro ?_ ?_)
    | ((with_reducible refine (id ?_ : (_ : Nat) ≤ _)); omega))
      intro x hx hx0
      have hcx : c ≠ x := fun e => by rw [e, hx] at hc; simp at hc
      have hmx : m ≠ x := fun e => by rw [e, hx] at hm; simp at hm
      have hxm : x ≠ m := fun e => hmx e.symm
      have hcm : c ≠ m := H.ne.2.2
      have hks := fun t ht => keysOk_pr t ht mes pr h1
      repeat' (first
    | with_reducible refine WP_seq ?_
    | ((first | with_reducible refine WP_skip ?_ | with_reducible refine SQ_nil ?_); (first | simp only [Exit.sel, Exit.blk] | simp only [EV2, EVB, stepH, gdOf, modeOf, effD, opD, putD, ofV, ofV1, D.cells, D.lay, D.one, condP, Exit.sel, Exit.blk, RetP, oneOf, resD, putAt, nilD, extrD, fillD, buildD, mapPutD, mapDelD, mapEntD, entPutD, newMapD, moveD, boundD, makeD, appendD, liveD, reduceCtorEq, if_true, if_false, ne_eq, ty_pt_60, ty_sz_91, ty_pt_87, ty_sz_89, ty_fd_91_1, ty_sz_86, ty_ag_86, ty_mu_86, ty_ma_86, ty_fd_91_0, ty_sz_3, ty_ag_3, ty_ki_3, ty_zc_89, ty_pl_89, ty_ar_89, ty_zr_87, ty_st_9, ty_fd_89_2, ty_sz_4, ty_ag_4, ty_fd_89_1, Try.results33, hc, hm, hks, kC, kD, vD, Heap.upd_ne, hcx, hmx, hxm, hcm]))
    | ((first | with_reducible refine WP_cond ?_ | with_reducible refine WP_ret ?_ | ((with_reducible refine SQr rfl ?_); intro rest hrest)); simp only [EV2, EVB, stepH, gdOf, modeOf, effD, opD, putD, ofV, ofV1, D.cells, D.lay, D.one, condP, Exit.sel, Exit.blk, RetP, oneOf, resD, putAt, nilD, extrD, fillD, buildD, mapPutD, mapDelD, mapEntD, entPutD, newMapD, moveD, boundD, makeD, appendD, liveD, reduceCtorEq, if_true, if_false, ne_eq, ty_pt_60, ty_sz_91, ty_pt_87, ty_sz_89, ty_fd_91_1, ty_sz_86, ty_ag_86, ty_mu_86, ty_ma_86, ty_fd_91_0, ty_sz_3, ty_ag_3, ty_ki_3, ty_zc_89, ty_pl_89, ty_ar_89, ty_zr_87, ty_st_9, ty_fd_89_2, ty_sz_4, ty_ag_4, ty_fd_89_1, Try.results33, hc, hm, hks, kC, kD, vD, Heap.upd_ne, hcx, hmx, hxm, hcm])
    | with_reducible refine WP_block ?_
    | ((with_reducible refine WP_exit ?_); simp only [Exit.sel, Exit.blk, reduceIte, eq_self, Nat.reduceEqDiff, Nat.zero_ne_one, Nat.one_ne_zero])
    | ((with_reducible refine hrest _ ?_); clear hrest rest)
    | with_reducible refine WP_reg (fun _ => none) (fun | 34 => 1 | _ => 0) (gamma0 _) ?_
    | with_reducible refine WP_draw (fun _ => none) (fun | 34 => 1 | _ => 0) (gamma0 _) (by kernel_rfl) (by kernel_rfl) ?_
    | ((with_reducible refine ifP (fun _ => ?_) (fun _ => ?_)) <;> try (exfalso; omega))
    | (with_reducible refine And.intro ?_ ?_)
    | ((with_reducible refine (id ?_ : (_ : Nat) ≤ _)); omega))
      refine (Ca.insert (h := h') (clock := clock) (e := ⟨k, v, dirty, 0⟩) H hl rfl hx h1 h2 ?_ ?_ fun j hj1 hj2 => ?_).mono fun _ h3 hd => ?_
      · simp [Heap.upd, hmx, kD]
      · simp [Heap.upd, hxm, kC, vD]
      · simp [Heap.upd, hj1, hj2]
      repeat' (first
    | with_reducible refine WP_seq ?_
    | ((first | with_reducible refine WP_skip ?_ | with_reducible refine SQ_nil ?_); (first | simp only [Exit.sel, Exit.blk] | simp only [EV2, EVB, stepH, gdOf, modeOf, effD, opD, putD, ofV, ofV1, D.cells, D.lay, D.one, condP, Exit.sel, Exit.blk, RetP, oneOf, resD, putAt, nilD, extrD, fillD, buildD, mapPutD, mapDelD, mapEntD, entPutD, newMapD, moveD, boundD, makeD, appendD, liveD, reduceCtorEq, if_true, if_false, ne_eq, ty_pt_60, ty_sz_91, ty_pt_87, ty_sz_89, ty_fd_91_1, ty_sz_86, ty_ag_86, ty_mu_86, ty_ma_86, ty_fd_91_0, ty_sz_3, ty_ag_3, ty_ki_3, ty_zc_89, ty_pl_89, ty_ar_89, ty_zr_87, ty_st_9, ty_fd_89_2, ty_sz_4, ty_ag_4, ty_fd_89_1, Try.results33]))
    | ((first | with_reducible refine WP_cond ?_ | with_reducible refine WP_ret ?_ | ((with_reducible refine SQr rfl ?_); intro rest hrest)); simp only [EV2, EVB, stepH, gdOf, modeOf, effD, opD, putD, ofV, ofV1, D.cells, D.lay, D.one, condP, Exit.sel, Exit.blk, RetP, oneOf, resD, putAt, nilD, extrD, fillD, buildD, mapPutD, mapDelD, mapEntD, entPutD, newMapD, moveD, boundD, makeD, appendD, liveD, reduceCtorEq, if_true, if_false, ne_eq, ty_pt_60, ty_sz_91, ty_pt_87, ty_sz_89, ty_fd_91_1, ty_sz_86, ty_ag_86, ty_mu_86, ty_ma_86, ty_fd_91_0, ty_sz_3, ty_ag_3, ty_ki_3, ty_zc_89, ty_pl_89, ty_ar_89, ty_zr_87, ty_st_9, ty_fd_89_2, ty_sz_4, ty_ag_4, ty_fd_89_1, Try.results33])
    | with_reducible refine WP_block ?_
    | ((with_reducible refine WP_exit ?_); simp only [Exit.sel, Exit.blk, reduceIte, eq_self, Nat.reduceEqDiff, Nat.zero_ne_one, Nat.one_ne_zero])
    | ((with_reducible refine hrest _ ?_); clear hrest rest)
    | with_reducible refine WP_reg (fun _ => none) (fun _ => 0) (gamma0 _) ?_
    | with_reducible refine WP_draw (fun _ => none) (fun _ => 0) (gamma0 _) (by kernel_rfl) (by kernel_rfl) ?_
    | ((with_reducible refine ifP (fun _ => ?_) (fun _ => ?_)) <;> try (exfalso; omega))
    | (with_reducible refine And.intro ?_ ?_)
    | ((with_reducible refine (id ?_ : (_ : Nat) ≤ _)); omega))
      exact hd
end Go.Proofs.Ytcjndiagbdkikaa.S

namespace Go.Proofs.Ytcjndiagbdkikaa.S





theorem new_bad (h : Heap) (n : Int) (hn : n < 1 ∨ 65536 < n) : CallsA Try.prog 32 [.int .i64 n] h fun d h' => d = .tup [.nilp, .int .i64 1] ∧ h' = h := by
  refine CallsA_body Try.func32 rfl en_32 ?_
  simp only [Try.ntmps32, List.length_cons, List.length_nil, List.replicate]
  by_cases h1 : n < 1
  · repeat' (first
    | with_reducible refine WP_seq ?_
    | ((first | with_reducible refine WP_skip ?_ | with_reducible refine SQ_nil ?_); (first | simp only [Exit.sel, Exit.blk] | simp only [EV2, EVB, stepH, gdOf, modeOf, effD, opD, putD, ofV, ofV1, D.cells, D.lay, D.one, condP, Exit.sel, Exit.blk, RetP, oneOf, resD, putAt, nilD, extrD, fillD, buildD, mapPutD, mapDelD, mapEntD, entPutD, newMapD, moveD, boundD, makeD, appendD, liveD, reduceCtorEq, if_true, if_false, ne_eq, ty_zc_89, ty_pl_89, ty_ar_89, ty_zc_91, ty_pl_91, ty_ar_91, ty_fd_91_2, ty_sz_87, ty_ag_87, ty_fd_89_4, ty_fd_89_5, Try.results32, h1]))
    | ((first | with_reducible refine WP_cond ?_ | with_reducible refine WP_ret ?_ | ((with_reducible refine SQr rfl ?_); intro rest hrest)); simp only [EV2, EVB, stepH, gdOf, modeOf, effD, opD, putD, ofV, ofV1, D.cells, D.lay, D.one, condP, Exit.sel, Exit.blk, RetP, oneOf, resD, putAt, nilD, extrD, fillD, buildD, mapPutD, mapDelD, mapEntD, entPutD, newMapD, moveD, boundD, makeD, appendD, liveD, reduceCtorEq, if_true, if_false, ne_eq, ty_zc_89, ty_pl_89, ty_ar_89, ty_zc_91, ty_pl_91, ty_ar_91, ty_fd_91_2, ty_sz_87, ty_ag_87, ty_fd_89_4, ty_fd_89_5, Try.results32, h1])
    | with_reducible refine WP_block ?_
    | ((with_reducible refine WP_exit ?_); simp only [Exit.sel, Exit.blk, reduceIte, eq_self, Nat.reduceEqDiff, Nat.zero_ne_one, Nat.one_ne_zero])
    | ((with_reducible refine hrest _ ?_); clear hrest rest)
    | with_reducible refine WP_reg (fun _ => none) (fun _ => 0) (gamma0 _) ?_
    | with_reducible refine WP_draw (fun _ => none) (fun _ => 0) (gamma0 _) (by kernel_rfl) (by kernel_rfl) ?_
    | ((with_reducible refine ifP (fun _ => ?_) (fun _ => ?_)) <;> try (exfalso; omega))
    | (with_reducible refine And.intro ?_ ?_)
    | ((with_reducible refine (id ?_ : (_ : Nat) ≤ _)); omega))
    all_goals rfl
  · have h2 : 65536 < n := hn.resolve_left h1
    repeat' (first
    | with_reducible refine WP_seq ?_
    | ((first | with_reducible refine WP_skip ?_ | with_reducible refine SQ_nil ?_); (first | simp only [Exit.sel, Exit.blk] | simp only [EV2, EVB, stepH, gdOf, modeOf, effD, opD, putD, ofV, ofV1, D.cells, D.lay, D.one, condP, Exit.sel, Exit.blk, RetP, oneOf, resD, putAt, nilD, extrD, fillD, buildD, mapPutD, mapDelD, mapEntD, entPutD, newMapD, moveD, boundD, makeD, appendD, liveD, reduceCtorEq, if_true, if_false, ne_eq, ty_zc_89, ty_pl_89, ty_ar_89, ty_zc_91, ty_pl_91, ty_ar_91, ty_fd_91_2, ty_sz_87, ty_ag_87, ty_fd_89_4, ty_fd_89_5, Try.results32, h1, h2]))
    | ((first | with_reducible refine WP_cond ?_ | with_reducible refine WP_ret ?_ | ((with_reducible refine SQr rfl ?_); intro rest hrest)); simp only [EV2, EVB, stepH, gdOf, modeOf, effD, opD, putD, ofV, ofV1, D.cells, D.lay, D.one, condP, Exit.sel, Exit.blk, RetP, oneOf, resD, putAt, nilD, extrD, fillD, buildD, mapPutD, mapDelD, mapEntD, entPutD, newMapD, moveD, boundD, makeD, appendD, liveD, reduceCtorEq, if_true, if_false, ne_eq, ty_zc_89, ty_pl_89, ty_ar_89, ty_zc_91, ty_pl_91, ty_ar_91, ty_fd_91_2, ty_sz_87, ty_ag_87, ty_fd_89_4, ty_fd_89_5, Try.results32, h1, h2])
    | with_reducible refine WP_block ?_
    | ((with_reducible refine WP_exit ?_); simp only [Exit.sel, Exit.blk, reduceIte, eq_self, Nat.reduceEqDiff, Nat.zero_ne_one, Nat.one_ne_zero])
    | ((with_reducible refine hrest _ ?_); clear hrest rest)
    | with_reducible refine WP_reg (fun _ => none) (fun _ => 0) (gamma0 _) ?_
    | with_reducible refine WP_draw (fun _ => none) (fun _ => 0) (gamma0 _) (by kernel_rfl) (by kernel_rfl) ?_
    | ((with_reducible refine ifP (fun _ => ?_) (fun _ => ?_)) <;> try (exfalso; omega))
    | (with_reducible refine And.intro ?_ ?_)
    | ((with_reducible refine (id ?_ : (_ : Nat) ≤ _)); omega))
    all_goals rfl

theorem new_calls (h : Heap) (n : Int) (h1 : 1 ≤ n) (h2 : n ≤ 65536) : CallsA Try.prog 32 [.int .i64 n] h fun d h' => ∃ c F, d = .tup [.ptr c 0, .int .i64 0] ∧ CaL h' c F n [] ∧ Fr h h' [] F := by
  refine CallsA_body Try.func32 rfl en_32 ?_
  simp only [Try.ntmps32, List.length_cons, List.length_nil, List.replicate]
  have g1 : ¬ n < 1 := by omega
  have g2 : ¬ 65536 < n := by omega
  repeat' (first
    | with_reducible refine WP_seq ?_
    | ((first | with_reducible refine WP_skip ?_ | with_reducible refine SQ_nil ?_); (first | simp only [Exit.sel, Exit.blk] | simp only [EV2, EVB, stepH, gdOf, modeOf, effD, opD, putD, ofV, ofV1, D.cells, D.lay, D.one, condP, Exit.sel, Exit.blk, RetP, oneOf, resD, putAt, nilD, extrD, fillD, buildD, mapPutD, mapDelD, mapEntD, entPutD, newMapD, moveD, boundD, makeD, appendD, liveD, reduceCtorEq, if_true, if_false, ne_eq, ty_zc_89, ty_pl_89, ty_ar_89, ty_zc_91, ty_pl_91, ty_ar_91, ty_fd_91_2, ty_sz_87, ty_ag_87, ty_fd_89_4, ty_fd_89_5, Try.results32, g1, g2, newMapD]))
    | ((first | with_reducible refine WP_cond ?_ | with_reducible refine WP_ret ?_ | ((with_reducible refine SQr rfl ?_); intro rest hrest)); simp only [EV2, EVB, stepH, gdOf, modeOf, effD, opD, putD, ofV, ofV1, D.cells, D.lay, D.one, condP, Exit.sel, Exit.blk, RetP, oneOf, resD, putAt, nilD, extrD, fillD, buildD, mapPutD, mapDelD, mapEntD, entPutD, newMapD, moveD, boundD, makeD, appendD, liveD, reduceCtorEq, if_true, if_false, ne_eq, ty_zc_89, ty_pl_89, ty_ar_89, ty_zc_91, ty_pl_91, ty_ar_91, ty_fd_91_2, ty_sz_87, ty_ag_87, ty_fd_89_4, ty_fd_89_5, Try.results32, g1, g2, newMapD])
    | with_reducible refine WP_block ?_
    | ((with_reducible refine WP_exit ?_); simp only [Exit.sel, Exit.blk, reduceIte, eq_self, Nat.reduceEqDiff, Nat.zero_ne_one, Nat.one_ne_zero])
    | ((with_reducible refine hrest _ ?_); clear hrest rest)
    | with_reducible refine WP_reg (fun _ => none) (fun | 14 => 1 | 16 => 1 | _ => 0) (gamma0 _) ?_
    | with_reducible refine WP_draw (fun _ => none) (fun | 14 => 1 | 16 => 1 | _ => 0) (gamma0 _) (by kernel_rfl) (by kernel_rfl) ?_
    | ((with_reducible refine ifP (fun _ => ?_) (fun _ => ?_)) <;> try (exfalso; omega))
    | (with_reducible refine And.intro ?_ ?_)
    | ((with_reducible refine (id ?_ : (_ : Nat) ≤ _)); omega))
  intro m hm hm0
  repeat' (first
    | with_reducible refine WP_seq ?_
    | ((first | with_reducible refine WP_skip ?_ | with_reducible refine SQ_nil ?_); (first | simp only [Exit.sel, Exit.blk] | simp only [EV2, EVB, stepH, gdOf, modeOf, effD, opD, putD, ofV, ofV1, D.cells, D.lay, D.one, condP, Exit.sel, Exit.blk, RetP, oneOf, resD, putAt, nilD, extrD, fillD, buildD, mapPutD, mapDelD, mapEntD, entPutD, newMapD, moveD, boundD, makeD, appendD, liveD, reduceCtorEq, if_true, if_false, ne_eq, ty_zc_89, ty_pl_89, ty_ar_89, ty_zc_91, ty_pl_91, ty_ar_91, ty_fd_91_2, ty_sz_87, ty_ag_87, ty_fd_89_4, ty_fd_89_5, Try.results32, newMapD]))
    | ((first | with_reducible refine WP_cond ?_ | with_reducible refine WP_ret ?_ | ((with_reducible refine SQr rfl ?_); intro rest hrest)); simp only [EV2, EVB, stepH, gdOf, modeOf, effD, opD, putD, ofV, ofV1, D.cells, D.lay, D.one, condP, Exit.sel, Exit.blk, RetP, oneOf, resD, putAt, nilD, extrD, fillD, buildD, mapPutD, mapDelD, mapEntD, entPutD, newMapD, moveD, boundD, makeD, appendD, liveD, reduceCtorEq, if_true, if_false, ne_eq, ty_zc_89, ty_pl_89, ty_ar_89, ty_zc_91, ty_pl_91, ty_ar_91, ty_fd_91_2, ty_sz_87, ty_ag_87, ty_fd_89_4, ty_fd_89_5, Try.results32, newMapD])
    | with_reducible refine WP_block ?_
    | ((with_reducible refine WP_exit ?_); simp only [Exit.sel, Exit.blk, reduceIte, eq_self, Nat.reduceEqDiff, Nat.zero_ne_one, Nat.one_ne_zero])
    | ((with_reducible refine hrest _ ?_); clear hrest rest)
    | with_reducible refine WP_reg (fun _ => none) (fun | 14 => 1 | 16 => 1 | _ => 0) (gamma0 _) ?_
    | with_reducible refine WP_draw (fun _ => none) (fun | 14 => 1 | 16 => 1 | _ => 0) (gamma0 _) (by kernel_rfl) (by kernel_rfl) ?_
    | ((with_reducible refine ifP (fun _ => ?_) (fun _ => ?_)) <;> try (exfalso; omega))
    | (with_reducible refine And.intro ?_ ?_)
    | ((with_reducible refine (id ?_ : (_ : Nat) ≤ _)); omega))
  intro r hr hr0
  have hrm : r ≠ m := fun e => by rw [e] at hr; simp [Heap.upd] at hr
  have hmr : m ≠ r := fun e => hrm e.symm
  have hr' : h r = none := by rwa [Heap.upd_ne _ _ hrm] at hr
  repeat' (first
    | with_reducible refine WP_seq ?_
    | ((first | with_reducible refine WP_skip ?_ | with_reducible refine SQ_nil ?_); (first | simp only [Exit.sel, Exit.blk] | simp only [EV2, EVB, stepH, gdOf, modeOf, effD, opD, putD, ofV, ofV1, D.cells, D.lay, D.one, condP, Exit.sel, Exit.blk, RetP, oneOf, resD, putAt, nilD, extrD, fillD, buildD, mapPutD, mapDelD, mapEntD, entPutD, newMapD, moveD, boundD, makeD, appendD, liveD, reduceCtorEq, if_true, if_false, ne_eq, ty_zc_89, ty_pl_89, ty_ar_89, ty_zc_91, ty_pl_91, ty_ar_91, ty_fd_91_2, ty_sz_87, ty_ag_87, ty_fd_89_4, ty_fd_89_5, Try.results32, newMapD]))
    | ((first | with_reducible refine WP_cond ?_ | with_reducible refine WP_ret ?_ | ((with_reducible refine SQr rfl ?_); intro rest hrest)); simp only [EV2, EVB, stepH, gdOf, modeOf, effD, opD, putD, ofV, ofV1, D.cells, D.lay, D.one, condP, Exit.sel, Exit.blk, RetP, oneOf, resD, putAt, nilD, extrD, fillD, buildD, mapPutD, mapDelD, mapEntD, entPutD, newMapD, moveD, boundD, makeD, appendD, liveD, reduceCtorEq, if_true, if_false, ne_eq, ty_zc_89, ty_pl_89, ty_ar_89, ty_zc_91, ty_pl_91, ty_ar_91, ty_fd_91_2, ty_sz_87, ty_ag_87, ty_fd_89_4, ty_fd_89_5, Try.results32, newMapD])
    | with_reducible refine WP_block ?_
    | ((with_reducible refine WP_exit ?_); simp only [Exit.sel, Exit.blk, reduceIte, eq_self, Nat.reduceEqDiff, Nat.zero_ne_one, Nat.one_ne_zero])
    | ((with_reducible refine hrest _ ?_); clear hrest rest)
    | with_reducible refine WP_reg (fun _ => none) (fun | 14 => 1 | 16 => 1 | _ => 0) (gamma0 _) ?_
    | with_reducible refine WP_draw (fun _ => none) (fun | 14 => 1 | 16 => 1 | _ => 0) (gamma0 _) (by kernel_rfl) (by kernel_rfl) ?_
    | ((with_reducible refine ifP (fun _ => ?_) (fun _ => ?_)) <;> try (exfalso; omega))
    | (with_reducible refine And.intro ?_ ?_)
    | ((with_reducible refine (id ?_ : (_ : Nat) ≤ _)); omega))
  intro c hc hc0
  have hcr : c ≠ r := fun e => by rw [e] at hc; simp [Heap.upd] at hc
  have hcm : c ≠ m := fun e => by rw [e] at hc; simp [Heap.upd, hmr] at hc
  have hrc : r ≠ c := fun e => hcr e.symm
  have hmc : m ≠ c := fun e => hcm e.symm
  have hc' : h c = none := by rwa [Heap.upd_ne _ _ hcr, Heap.upd_ne _ _ hcm] at hc
  repeat' (first
    | with_reducible refine WP_seq ?_
    | ((first | with_reducible refine WP_skip ?_ | with_reducible refine SQ_nil ?_); (first | simp only [Exit.sel, Exit.blk] | simp only [EV2, EVB, stepH, gdOf, modeOf, effD, opD, putD, ofV, ofV1, D.cells, D.lay, D.one, condP, Exit.sel, Exit.blk, RetP, oneOf, resD, putAt, nilD, extrD, fillD, buildD, mapPutD, mapDelD, mapEntD, entPutD, newMapD, moveD, boundD, makeD, appendD, liveD, reduceCtorEq, if_true, if_false, ne_eq, ty_zc_89, ty_pl_89, ty_ar_89, ty_zc_91, ty_pl_91, ty_ar_91, ty_fd_91_2, ty_sz_87, ty_ag_87, ty_fd_89_4, ty_fd_89_5, Try.results32, Heap.upd_ne, hrm, hmr, hcr, hcm, hrc, hmc]))
    | ((first | with_reducible refine WP_cond ?_ | with_reducible refine WP_ret ?_ | ((with_reducible refine SQr rfl ?_); intro rest hrest)); simp only [EV2, EVB, stepH, gdOf, modeOf, effD, opD, putD, ofV, ofV1, D.cells, D.lay, D.one, condP, Exit.sel, Exit.blk, RetP, oneOf, resD, putAt, nilD, extrD, fillD, buildD, mapPutD, mapDelD, mapEntD, entPutD, newMapD, moveD, boundD, makeD, appendD, liveD, reduceCtorEq, if_true, if_false, ne_eq, ty_zc_89, ty_pl_89, ty_ar_89, ty_zc_91, ty_pl_91, ty_ar_91, ty_fd_91_2, ty_sz_87, ty_ag_87, ty_fd_89_4, ty_fd_89_5, Try.results32, Heap.upd_ne, hrm, hmr, hcr, hcm, hrc, hmc])
    | with_reducible refine WP_block ?_
    | ((with_reducible refine WP_exit ?_); simp only [Exit.sel, Exit.blk, reduceIte, eq_self, Nat.reduceEqDiff, Nat.zero_ne_one, Nat.one_ne_zero])
    | ((with_reducible refine hrest _ ?_); clear hrest rest)
    | with_reducible refine WP_reg (fun _ => none) (fun | 14 => 1 | 16 => 1 | _ => 0) (gamma0 _) ?_
    | with_reducible refine WP_draw (fun _ => none) (fun | 14 => 1 | 16 => 1 | _ => 0) (gamma0 _) (by kernel_rfl) (by kernel_rfl) ?_
    | ((with_reducible refine ifP (fun _ => ?_) (fun _ => ?_)) <;> try (exfalso; omega))
    | (with_reducible refine And.intro ?_ ?_)
    | ((with_reducible refine (id ?_ : (_ : Nat) ≤ _)); omega))
  refine ⟨c, _, rfl, ⟨m, r, [], fun _ => ⟨kz, vz, false, 0⟩, ⟨?_, ⟨[], 0, [], ?_, rfl, .refl _⟩, ⟨fun _ => r, fun _ => r, fun y hy => ?_, ⟨rfl, rfl⟩, by simp⟩, by simp⟩, rfl, rfl⟩, ⟨fun j _ hj => ?_, fun j hj => .inr ?_⟩⟩
  · simp [Heap.upd, hcr]
  · simp [Heap.upd, hmr, hmc]
  · have : y = r := by simpa using hy
    subst this
    simp [Heap.upd, nodeC, kC, vD, kz, vz]
  · have a1 : j ≠ m := fun e => hj (e ▸ hm)
    have a2 : j ≠ r := fun e => hj (e ▸ hr')
    have a3 : j ≠ c := fun e => hj (e ▸ hc')
    simp [Heap.upd, a1, a2, a3]
  · simp only [List.mem_cons, List.not_mem_nil, or_false] at hj
    rcases hj with h | h | h
    · rw [h]; exact hc'
    · rw [h]; exact hm
    · rw [h]; exact hr'
end Go.Proofs.Ytcjndiagbdkikaa.S
