/- Putting. No condition. -/
import Derived.Test.YtcjndiagbdkikaaCa7
set_option linter.unusedSimpArgs false
set_option linter.unusedVariables false
namespace Go.Proofs.Ytcjndiagbdkikaa.I

theorem Fr.trans {h h2 h3 : Heap} {F F2 F3 : List Nat} (a : Fr h h2 F F2) (b : Fr h2 h3 F2 F3) : Fr h h3 F F3 := by
  refine ⟨fun i hi hn => ?_, fun i hi => ?_⟩
  · have h2i := a.keep i hi hn
    rw [b.keep i (fun e => (a.foot i e).elim hi hn) (by rw [h2i]; exact hn), h2i]
  · rcases b.foot i hi with h1 | h1
    · exact a.foot i h1
    · by_cases hF : i ∈ F
      · exact .inl hF
      · by_cases hn : h i = none
        · exact .inr hn
        · rw [a.keep i hF hn] at h1; exact absurd h1 hn

/-- Used, with a new value. -/
theorem Ca.touch {h h1 : Heap} {c m r : Nat} {n : Int} {ids : List Nat} {en : Nat → Ent} (H : Ca h c m r n ids en) {k : Key} {i : Nat} (hl : lk k ids en = some i) {e : Ent} (he : e.key = (en i).key) {pv nx : Nat → Nat} (R : Rg h r ids en pv nx)
    (hf : ∀ j, j ≠ i → h1 j = h j) (hv : h1 i = some (.cells (nodeC e (pv i) (nx i)))) :
    CallsA Try.prog 37 [.ptr c 0, .ptr i 0] h1 fun _ h' => ∃ F', CaL h' c F' n (rem k (ids.map en) ++ [e]) ∧ Fr h h' (c :: m :: r :: ids) F' := by
  have H1 := H.set (lk_some hl).1 he R hf hv
  obtain ⟨hi, hk⟩ := lk_some hl
  obtain ⟨pv', nx', R1⟩ := H1.rg
  refine (use_in H1.hc R1 H1.ne.1 hi).mono fun _ h2 ⟨R2, hf2⟩ => ?_
  have hni : ∀ j, j ∉ r :: ids → j ≠ i := fun j hj e => hj (by simp [e, hi])
  refine ⟨_, ⟨m, r, _, _, H1.perm (perm_use hi) hf2 R2, rfl, ?_⟩, ⟨fun j hj _ => ?_, fun j hj => .inl ?_⟩⟩
  · rw [rem_map hl, List.map_append]
    congr 1
    · refine List.map_congr_left fun j hj => ?_
      have : j ≠ i := fun e => by
        have hn := (List.nodup_cons.1 R.un).2
        subst e; exact (List.Nodup.not_mem_erase hn) hj
      simp [this]
    · simp
  · have hj' : j ∉ r :: ids := fun e => hj (by simp only [List.mem_cons] at e ⊢; exact .inr (.inr e))
    rw [hf2 j hj', hf j (hni j hj')]
  · simp only [List.mem_cons, (perm_use hi).mem_iff] at hj ⊢; exact hj

/-- A new entry. -/
theorem Ca.insert {h h1 : Heap} {c m r x : Nat} {n : Int} {ids : List Nat} {en : Nat → Ent} (H : Ca h c m r n ids en) {k : Key} (hl : lk k ids en = none) {e : Ent} (he : e.key = k) (hx : h x = none)
    {mes : List ME} {clock : Nat} {pr : List (Key × Nat)} (g1 : mes.map pk = pr.map pd) (g2 : pr.Perm (ids.map fun i => ((en i).key, i)))
    (hm : h1 m = some (.map (putM (kD k) (.ptr x 0) clock mes).1 (putM (kD k) (.ptr x 0) clock mes).2))
    (hv : h1 x = some (.cells (kC e.key ++ [vD e.val, .bool e.dirty, .int .i64 e.pins, .nilp, .nilp]))) (hf : ∀ j, j ≠ m → j ≠ x → h1 j = h j) :
    CallsA Try.prog 37 [.ptr c 0, .ptr x 0] h1 fun _ h' => ∃ F', CaL h' c F' n (ids.map en ++ [e]) ∧ Fr h h' (c :: m :: r :: ids) F' := by
  obtain ⟨n1, n2, n3⟩ := H.ne
  obtain ⟨pv, nx, R⟩ := H.rg
  have hcx : c ≠ x := fun e => by have := H.hc; rw [e, hx] at this; simp at this
  have hxr : x ∉ r :: ids := fun e => by have := R.nd x e; rw [hx] at this; simp at this
  have hxm : x ≠ m := fun e => by
    obtain ⟨a, b, _, hm0, _⟩ := H.mp
    rw [← e, hx] at hm0; simp at hm0
  have hen : ∀ i ∈ r :: ids, (if i = x then e else en i) = en i := fun i hi => by
    have : i ≠ x := fun e => hxr (e ▸ hi)
    simp [this]
  have hen' : ∀ i ∈ ids, (if i = x then e else en i) = en i := fun i hi => hen i (List.mem_cons_of_mem _ hi)
  have hmr : ∀ y ∈ r :: ids, y ≠ m := fun y hy e => n2 (e ▸ hy)
  have hxr' : ∀ y ∈ r :: ids, y ≠ x := fun y hy e => hxr (e ▸ hy)
  have R1 : Rg h1 r ids (fun i => if i = x then e else en i) pv nx := ⟨fun y hy => by
    rw [hf y (hmr y hy) (hxr' y hy), R.nd y hy]; simp only [hen y hy], R.ch, R.un⟩
  have hc1 : h1 c = some (.cells [.int .i64 n, .mp m, .ptr r 0]) := by rw [hf c n3 hcx]; exact H.hc
  refine (use_new hc1 R1 (fun e => ?_) hxr (by simpa using hv)).mono fun _ h2 ⟨R2, hf2⟩ => ?_
  · simp only [List.mem_cons] at e n1
    rcases e with e | e | e
    · exact n1 (.inl e)
    · exact hcx e
    · exact n1 (.inr e)
  have hc' : c ∉ r :: x :: ids := fun e => by
    simp only [List.mem_cons] at e n1
    rcases e with e | e | e
    · exact n1 (.inl e)
    · exact hcx e
    · exact n1 (.inr e)
  have hm' : m ∉ r :: x :: ids := fun e => by
    simp only [List.mem_cons] at e n2
    rcases e with e | e | e
    · exact n2 (.inl e)
    · exact hxm e.symm
    · exact n2 (.inr e)
  have hpn : ∀ p ∈ pr, p.1 ≠ k := fun p hp => by
    obtain ⟨i, hi, rfl⟩ := List.mem_map.1 (g2.mem_iff.1 hp)
    exact lk_none hl i hi
  have hperm : (ids ++ [x]).Perm (x :: ids) := List.perm_append_comm (l₁ := ids) (l₂ := [x])
  have hmk : (ids.map fun i => (if i = x then e else en i).key) = ids.map fun i => (en i).key := List.map_congr_left fun i hi => by rw [hen' i hi]
  have hmp : (ids.map fun i => ((if i = x then e else en i).key, i)) = ids.map fun i => ((en i).key, i) := List.map_congr_left fun i hi => by rw [hen' i hi]
  refine ⟨_, ⟨m, r, _, fun i => if i = x then e else en i, ⟨by rw [hf2 c hc']; exact hc1, ⟨_, _, _, by rw [hf2 m hm']; exact hm, putM_pr k x clock mes pr g1 hpn, ?_⟩, R2, ?_⟩, rfl, ?_⟩, ⟨fun j hj hjn => ?_, fun j hj => ?_⟩⟩
  · rw [List.map_append, hmp]
    simp only [List.map_cons, List.map_nil, if_true, he]
    exact g2.append_right _
  · rw [List.map_append, hmk]
    simp only [List.map_cons, List.map_nil, if_true, he]
    refine List.nodup_append.2 ⟨H.ky, by simp, fun a ha b hb e2 => ?_⟩
    obtain ⟨i, hi, rfl⟩ := List.mem_map.1 ha
    simp at hb
    exact lk_none hl i hi (by rw [e2, hb])
  · rw [List.map_append]
    congr 1
    · exact (List.map_congr_left fun i hi => hen' i hi).symm
    · simp
  · simp only [List.mem_cons, not_or] at hj
    have hjx : j ≠ x := fun e => hjn (e ▸ hx)
    rw [hf2 j (by simp only [List.mem_cons, not_or]; exact ⟨hj.2.2.1, hjx, hj.2.2.2⟩), hf j hj.2.1 hjx]
  · simp only [List.mem_cons, List.mem_append, List.not_mem_nil, or_false] at hj ⊢
    rcases hj with h | h | h | h | h
    · exact .inl (.inl h)
    · exact .inl (.inr (.inl h))
    · exact .inl (.inr (.inr (.inl h)))
    · exact .inl (.inr (.inr (.inr h)))
    · exact .inr (by rw [h]; exact hx)

def putL (k : Key) (v : Val) (dirty : Bool) (n : Int) (L : List Ent) : Int × List Ent := match fnd k L with
  | some e => (0, rem k L ++ [{ e with val := v, dirty := e.dirty || dirty }])
  | none => if (L.length : Int) = n then (if L.any free = true then (0, L.eraseP free ++ [⟨k, v, dirty, 0⟩]) else (4, L)) else (0, L ++ [⟨k, v, dirty, 0⟩])

theorem put_nil (h : Heap) (k : Key) (v : Val) (dirty : Bool) : CallsA Try.prog 11 [.nilp, kD k, vD v, .bool dirty] h fun d h' => d = .int .i64 2 ∧ h' = h := by
  refine CallsA_body Try.func11 rfl en_11 ?_
  simp only [Try.ntmps11, List.length_cons, List.length_nil, List.replicate]
  repeat' (first
    | with_reducible refine WP_seq ?_
    | ((first | with_reducible refine WP_skip ?_ | with_reducible refine SQ_nil ?_); (first | simp only [Exit.sel, Exit.blk] | simp only [EV2, EVB, stepH, gdOf, modeOf, effD, opD, putD, ofV, ofV1, D.cells, D.lay, D.one, condP, Exit.sel, Exit.blk, RetP, oneOf, resD, putAt, nilD, extrD, fillD, buildD, mapPutD, mapDelD, mapEntD, entPutD, newMapD, moveD, boundD, makeD, appendD, liveD, reduceCtorEq, if_true, if_false, ne_eq, ty_pt_25, ty_sz_70, ty_pt_66, ty_sz_68, ty_fd_70_1, ty_sz_65, ty_ag_65, ty_mu_65, ty_ma_65, ty_fd_70_0, ty_sz_3, ty_ag_3, ty_ki_3, ty_zc_68, ty_pl_68, ty_ar_68, ty_zr_66, ty_fd_68_2, ty_sz_4, ty_ag_4, ty_fd_68_1, Try.results11]))
    | ((first | with_reducible refine WP_cond ?_ | with_reducible refine WP_ret ?_ | ((with_reducible refine SQr rfl ?_); intro rest hrest)); simp only [EV2, EVB, stepH, gdOf, modeOf, effD, opD, putD, ofV, ofV1, D.cells, D.lay, D.one, condP, Exit.sel, Exit.blk, RetP, oneOf, resD, putAt, nilD, extrD, fillD, buildD, mapPutD, mapDelD, mapEntD, entPutD, newMapD, moveD, boundD, makeD, appendD, liveD, reduceCtorEq, if_true, if_false, ne_eq, ty_pt_25, ty_sz_70, ty_pt_66, ty_sz_68, ty_fd_70_1, ty_sz_65, ty_ag_65, ty_mu_65, ty_ma_65, ty_fd_70_0, ty_sz_3, ty_ag_3, ty_ki_3, ty_zc_68, ty_pl_68, ty_ar_68, ty_zr_66, ty_fd_68_2, ty_sz_4, ty_ag_4, ty_fd_68_1, Try.results11])
    | with_reducible refine WP_block ?_
    | ((with_reducible refine WP_exit ?_); simp only [Exit.sel, Exit.blk, reduceIte, eq_self, Nat.reduceEqDiff, Nat.zero_ne_one, Nat.one_ne_zero])
    | ((with_reducible refine hrest _ ?_); clear hrest rest)
    | with_reducible refine WP_reg (fun _ => none) (fun _ => 0) (gamma0 _) ?_
    | with_reducible refine WP_draw (fun _ => none) (fun _ => 0) (gamma0 _) (by kernel_rfl) (by kernel_rfl) ?_
    | ((with_reducible refine ifP (fun _ => ?_) (fun _ => ?_)) <;> try (exfalso; omega))
    | (with_reducible refine And.intro ?_ ?_)
    | ((with_reducible refine (id ?_ : (_ : Nat) ≤ _)); omega))
  all_goals rfl

theorem put_calls {h : Heap} {c : Nat} {F : List Nat} {n : Int} {L : List Ent} (H : CaL h c F n L) (k : Key) (v : Val) (dirty : Bool) :
    CallsA Try.prog 11 [.ptr c 0, kD k, vD v, .bool dirty] h fun d h' => d = .int .i64 (putL k v dirty n L).1 ∧ ∃ F', CaL h' c F' n (putL k v dirty n L).2 ∧ Fr h h' F F' := by
  have H0 := H
  obtain ⟨m, r, ids, en, H, rfl, rfl⟩ := H
  obtain ⟨mes, clock, pr, hm, h1, h2⟩ := H.mp
  have hc := H.hc
  have hlen : mes.length = ids.length := by
    have := congrArg List.length h1
    simp only [List.length_map] at this
    rw [this, h2.length_eq, List.length_map]
  rw [putL, fnd_map]
  refine CallsA_body Try.func11 rfl en_11 ?_
  simp only [Try.ntmps11, List.length_cons, List.length_nil, List.replicate]
  repeat' (first
    | with_reducible refine WP_seq ?_
    | ((first | with_reducible refine WP_skip ?_ | with_reducible refine SQ_nil ?_); (first | simp only [Exit.sel, Exit.blk] | simp only [EV2, EVB, stepH, gdOf, modeOf, effD, opD, putD, ofV, ofV1, D.cells, D.lay, D.one, condP, Exit.sel, Exit.blk, RetP, oneOf, resD, putAt, nilD, extrD, fillD, buildD, mapPutD, mapDelD, mapEntD, entPutD, newMapD, moveD, boundD, makeD, appendD, liveD, reduceCtorEq, if_true, if_false, ne_eq, ty_pt_25, ty_sz_70, ty_pt_66, ty_sz_68, ty_fd_70_1, ty_sz_65, ty_ag_65, ty_mu_65, ty_ma_65, ty_fd_70_0, ty_sz_3, ty_ag_3, ty_ki_3, ty_zc_68, ty_pl_68, ty_ar_68, ty_zr_66, ty_fd_68_2, ty_sz_4, ty_ag_4, ty_fd_68_1, Try.results11]))
    | ((first | with_reducible refine WP_cond ?_ | with_reducible refine WP_ret ?_ | ((with_reducible refine SQr rfl ?_); intro rest hrest)); simp only [EV2, EVB, stepH, gdOf, modeOf, effD, opD, putD, ofV, ofV1, D.cells, D.lay, D.one, condP, Exit.sel, Exit.blk, RetP, oneOf, resD, putAt, nilD, extrD, fillD, buildD, mapPutD, mapDelD, mapEntD, entPutD, newMapD, moveD, boundD, makeD, appendD, liveD, reduceCtorEq, if_true, if_false, ne_eq, ty_pt_25, ty_sz_70, ty_pt_66, ty_sz_68, ty_fd_70_1, ty_sz_65, ty_ag_65, ty_mu_65, ty_ma_65, ty_fd_70_0, ty_sz_3, ty_ag_3, ty_ki_3, ty_zc_68, ty_pl_68, ty_ar_68, ty_zr_66, ty_fd_68_2, ty_sz_4, ty_ag_4, ty_fd_68_1, Try.results11])
    | with_reducible refine WP_block ?_
    | ((with_reducible refine WP_exit ?_); simp only [Exit.sel, Exit.blk, reduceIte, eq_self, Nat.reduceEqDiff, Nat.zero_ne_one, Nat.one_ne_zero])
    | ((with_reducible refine hrest _ ?_); clear hrest rest)
    | with_reducible refine WP_reg (fun _ => none) (fun _ => 0) (gamma0 _) ?_
    | with_reducible refine WP_draw (fun _ => none) (fun _ => 0) (gamma0 _) (by kernel_rfl) (by kernel_rfl) ?_
    | ((with_reducible refine ifP (fun _ => ?_) (fun _ => ?_)) <;> try (exfalso; omega))
    | (with_reducible refine And.intro ?_ ?_)
    | ((with_reducible refine (id ?_ : (_ : Nat) ≤ _)); omega))
  refine (find_calls H k).mono fun d h' ⟨hd, hh⟩ => ?_
  subst hd hh
  (with_reducible refine hrest _ ?_); clear hrest rest
  cases hl : lk k ids en with
  | some i =>
    simp only [Option.map_some, Option.getD_some]
    obtain ⟨hi, hk⟩ := lk_some hl
    obtain ⟨pv, nx, R⟩ := H.rg
    have hx := R.nd i (by simp [hi])
    by_cases hp : (en i).dirty = true
    · repeat' (first
    | with_reducible refine WP_seq ?_
    | ((first | with_reducible refine WP_skip ?_ | with_reducible refine SQ_nil ?_); (first | simp only [Exit.sel, Exit.blk] | simp only [EV2, EVB, stepH, gdOf, modeOf, effD, opD, putD, ofV, ofV1, D.cells, D.lay, D.one, condP, Exit.sel, Exit.blk, RetP, oneOf, resD, putAt, nilD, extrD, fillD, buildD, mapPutD, mapDelD, mapEntD, entPutD, newMapD, moveD, boundD, makeD, appendD, liveD, reduceCtorEq, if_true, if_false, ne_eq, ty_pt_25, ty_sz_70, ty_pt_66, ty_sz_68, ty_fd_70_1, ty_sz_65, ty_ag_65, ty_mu_65, ty_ma_65, ty_fd_70_0, ty_sz_3, ty_ag_3, ty_ki_3, ty_zc_68, ty_pl_68, ty_ar_68, ty_zr_66, ty_fd_68_2, ty_sz_4, ty_ag_4, ty_fd_68_1, Try.results11, hx, nodeC, kC, vD, hp]))
    | ((first | with_reducible refine WP_cond ?_ | with_reducible refine WP_ret ?_ | ((with_reducible refine SQr rfl ?_); intro rest hrest)); simp only [EV2, EVB, stepH, gdOf, modeOf, effD, opD, putD, ofV, ofV1, D.cells, D.lay, D.one, condP, Exit.sel, Exit.blk, RetP, oneOf, resD, putAt, nilD, extrD, fillD, buildD, mapPutD, mapDelD, mapEntD, entPutD, newMapD, moveD, boundD, makeD, appendD, liveD, reduceCtorEq, if_true, if_false, ne_eq, ty_pt_25, ty_sz_70, ty_pt_66, ty_sz_68, ty_fd_70_1, ty_sz_65, ty_ag_65, ty_mu_65, ty_ma_65, ty_fd_70_0, ty_sz_3, ty_ag_3, ty_ki_3, ty_zc_68, ty_pl_68, ty_ar_68, ty_zr_66, ty_fd_68_2, ty_sz_4, ty_ag_4, ty_fd_68_1, Try.results11, hx, nodeC, kC, vD, hp])
    | with_reducible refine WP_block ?_
    | ((with_reducible refine WP_exit ?_); simp only [Exit.sel, Exit.blk, reduceIte, eq_self, Nat.reduceEqDiff, Nat.zero_ne_one, Nat.one_ne_zero])
    | ((with_reducible refine hrest _ ?_); clear hrest rest)
    | with_reducible refine WP_reg (fun _ => none) (fun _ => 0) (gamma0 _) ?_
    | with_reducible refine WP_draw (fun _ => none) (fun _ => 0) (gamma0 _) (by kernel_rfl) (by kernel_rfl) ?_
    | ((with_reducible refine ifP (fun _ => ?_) (fun _ => ?_)) <;> try (exfalso; omega))
    | (with_reducible refine And.intro ?_ ?_)
    | ((with_reducible refine (id ?_ : (_ : Nat) ≤ _)); omega))
      refine (Ca.touch (h := h') (e := { en i with val := v, dirty := true }) H hl rfl R (fun j hj => ?_) ?_).mono fun _ h3 hd => ?_
      · rw [Heap.upd_ne _ _ hj, Heap.upd_ne _ _ hj]
      · rw [Heap.upd_same]; rfl
      repeat' (first
    | with_reducible refine WP_seq ?_
    | ((first | with_reducible refine WP_skip ?_ | with_reducible refine SQ_nil ?_); (first | simp only [Exit.sel, Exit.blk] | simp only [EV2, EVB, stepH, gdOf, modeOf, effD, opD, putD, ofV, ofV1, D.cells, D.lay, D.one, condP, Exit.sel, Exit.blk, RetP, oneOf, resD, putAt, nilD, extrD, fillD, buildD, mapPutD, mapDelD, mapEntD, entPutD, newMapD, moveD, boundD, makeD, appendD, liveD, reduceCtorEq, if_true, if_false, ne_eq, ty_pt_25, ty_sz_70, ty_pt_66, ty_sz_68, ty_fd_70_1, ty_sz_65, ty_ag_65, ty_mu_65, ty_ma_65, ty_fd_70_0, ty_sz_3, ty_ag_3, ty_ki_3, ty_zc_68, ty_pl_68, ty_ar_68, ty_zr_66, ty_fd_68_2, ty_sz_4, ty_ag_4, ty_fd_68_1, Try.results11]))
    | ((first | with_reducible refine WP_cond ?_ | with_reducible refine WP_ret ?_ | ((with_reducible refine SQr rfl ?_); intro rest hrest)); simp only [EV2, EVB, stepH, gdOf, modeOf, effD, opD, putD, ofV, ofV1, D.cells, D.lay, D.one, condP, Exit.sel, Exit.blk, RetP, oneOf, resD, putAt, nilD, extrD, fillD, buildD, mapPutD, mapDelD, mapEntD, entPutD, newMapD, moveD, boundD, makeD, appendD, liveD, reduceCtorEq, if_true, if_false, ne_eq, ty_pt_25, ty_sz_70, ty_pt_66, ty_sz_68, ty_fd_70_1, ty_sz_65, ty_ag_65, ty_mu_65, ty_ma_65, ty_fd_70_0, ty_sz_3, ty_ag_3, ty_ki_3, ty_zc_68, ty_pl_68, ty_ar_68, ty_zr_66, ty_fd_68_2, ty_sz_4, ty_ag_4, ty_fd_68_1, Try.results11])
    | with_reducible refine WP_block ?_
    | ((with_reducible refine WP_exit ?_); simp only [Exit.sel, Exit.blk, reduceIte, eq_self, Nat.reduceEqDiff, Nat.zero_ne_one, Nat.one_ne_zero])
    | ((with_reducible refine hrest _ ?_); clear hrest rest)
    | with_reducible refine WP_reg (fun _ => none) (fun _ => 0) (gamma0 _) ?_
    | with_reducible refine WP_draw (fun _ => none) (fun _ => 0) (gamma0 _) (by kernel_rfl) (by kernel_rfl) ?_
    | ((with_reducible refine ifP (fun _ => ?_) (fun _ => ?_)) <;> try (exfalso; omega))
    | (with_reducible refine And.intro ?_ ?_)
    | ((with_reducible refine (id ?_ : (_ : Nat) ≤ _)); omega))
      simp only [hp, Bool.true_or]; exact hd
    · have hp : (en i).dirty = false := by simpa using hp
      repeat' (first
    | with_reducible refine WP_seq ?_
    | ((first | with_reducible refine WP_skip ?_ | with_reducible refine SQ_nil ?_); (first | simp only [Exit.sel, Exit.blk] | simp only [EV2, EVB, stepH, gdOf, modeOf, effD, opD, putD, ofV, ofV1, D.cells, D.lay, D.one, condP, Exit.sel, Exit.blk, RetP, oneOf, resD, putAt, nilD, extrD, fillD, buildD, mapPutD, mapDelD, mapEntD, entPutD, newMapD, moveD, boundD, makeD, appendD, liveD, reduceCtorEq, if_true, if_false, ne_eq, ty_pt_25, ty_sz_70, ty_pt_66, ty_sz_68, ty_fd_70_1, ty_sz_65, ty_ag_65, ty_mu_65, ty_ma_65, ty_fd_70_0, ty_sz_3, ty_ag_3, ty_ki_3, ty_zc_68, ty_pl_68, ty_ar_68, ty_zr_66, ty_fd_68_2, ty_sz_4, ty_ag_4, ty_fd_68_1, Try.results11, hx, nodeC, kC, vD, hp]))
    | ((first | with_reducible refine WP_cond ?_ | with_reducible refine WP_ret ?_ | ((with_reducible refine SQr rfl ?_); intro rest hrest)); simp only [EV2, EVB, stepH, gdOf, modeOf, effD, opD, putD, ofV, ofV1, D.cells, D.lay, D.one, condP, Exit.sel, Exit.blk, RetP, oneOf, resD, putAt, nilD, extrD, fillD, buildD, mapPutD, mapDelD, mapEntD, entPutD, newMapD, moveD, boundD, makeD, appendD, liveD, reduceCtorEq, if_true, if_false, ne_eq, ty_pt_25, ty_sz_70, ty_pt_66, ty_sz_68, ty_fd_70_1, ty_sz_65, ty_ag_65, ty_mu_65, ty_ma_65, ty_fd_70_0, ty_sz_3, ty_ag_3, ty_ki_3, ty_zc_68, ty_pl_68, ty_ar_68, ty_zr_66, ty_fd_68_2, ty_sz_4, ty_ag_4, ty_fd_68_1, Try.results11, hx, nodeC, kC, vD, hp])
    | with_reducible refine WP_block ?_
    | ((with_reducible refine WP_exit ?_); simp only [Exit.sel, Exit.blk, reduceIte, eq_self, Nat.reduceEqDiff, Nat.zero_ne_one, Nat.one_ne_zero])
    | ((with_reducible refine hrest _ ?_); clear hrest rest)
    | with_reducible refine WP_reg (fun _ => none) (fun _ => 0) (gamma0 _) ?_
    | with_reducible refine WP_draw (fun _ => none) (fun _ => 0) (gamma0 _) (by kernel_rfl) (by kernel_rfl) ?_
    | ((with_reducible refine ifP (fun _ => ?_) (fun _ => ?_)) <;> try (exfalso; omega))
    | (with_reducible refine And.intro ?_ ?_)
    | ((with_reducible refine (id ?_ : (_ : Nat) ≤ _)); omega))
      refine (Ca.touch (h := h') (e := { en i with val := v, dirty := dirty }) H hl rfl R (fun j hj => ?_) ?_).mono fun _ h3 hd => ?_
      · rw [Heap.upd_ne _ _ hj, Heap.upd_ne _ _ hj]
      · rw [Heap.upd_same]; rfl
      repeat' (first
    | with_reducible refine WP_seq ?_
    | ((first | with_reducible refine WP_skip ?_ | with_reducible refine SQ_nil ?_); (first | simp only [Exit.sel, Exit.blk] | simp only [EV2, EVB, stepH, gdOf, modeOf, effD, opD, putD, ofV, ofV1, D.cells, D.lay, D.one, condP, Exit.sel, Exit.blk, RetP, oneOf, resD, putAt, nilD, extrD, fillD, buildD, mapPutD, mapDelD, mapEntD, entPutD, newMapD, moveD, boundD, makeD, appendD, liveD, reduceCtorEq, if_true, if_false, ne_eq, ty_pt_25, ty_sz_70, ty_pt_66, ty_sz_68, ty_fd_70_1, ty_sz_65, ty_ag_65, ty_mu_65, ty_ma_65, ty_fd_70_0, ty_sz_3, ty_ag_3, ty_ki_3, ty_zc_68, ty_pl_68, ty_ar_68, ty_zr_66, ty_fd_68_2, ty_sz_4, ty_ag_4, ty_fd_68_1, Try.results11]))
    | ((first | with_reducible refine WP_cond ?_ | with_reducible refine WP_ret ?_ | ((with_reducible refine SQr rfl ?_); intro rest hrest)); simp only [EV2, EVB, stepH, gdOf, modeOf, effD, opD, putD, ofV, ofV1, D.cells, D.lay, D.one, condP, Exit.sel, Exit.blk, RetP, oneOf, resD, putAt, nilD, extrD, fillD, buildD, mapPutD, mapDelD, mapEntD, entPutD, newMapD, moveD, boundD, makeD, appendD, liveD, reduceCtorEq, if_true, if_false, ne_eq, ty_pt_25, ty_sz_70, ty_pt_66, ty_sz_68, ty_fd_70_1, ty_sz_65, ty_ag_65, ty_mu_65, ty_ma_65, ty_fd_70_0, ty_sz_3, ty_ag_3, ty_ki_3, ty_zc_68, ty_pl_68, ty_ar_68, ty_zr_66, ty_fd_68_2, ty_sz_4, ty_ag_4, ty_fd_68_1, Try.results11])
    | with_reducible refine WP_block ?_
    | ((with_reducible refine WP_exit ?_); simp only [Exit.sel, Exit.blk, reduceIte, eq_self, Nat.reduceEqDiff, Nat.zero_ne_one, Nat.one_ne_zero])
    | ((with_reducible refine hrest _ ?_); clear hrest rest)
    | with_reducible refine WP_reg (fun _ => none) (fun _ => 0) (gamma0 _) ?_
    | with_reducible refine WP_draw (fun _ => none) (fun _ => 0) (gamma0 _) (by kernel_rfl) (by kernel_rfl) ?_
    | ((with_reducible refine ifP (fun _ => ?_) (fun _ => ?_)) <;> try (exfalso; omega))
    | (with_reducible refine And.intro ?_ ?_)
    | ((with_reducible refine (id ?_ : (_ : Nat) ≤ _)); omega))
      simp only [hp, Bool.false_or]; exact hd
  | none =>
    simp only [Option.map_none, Option.getD_none, List.length_map]
    by_cases hn : (ids.length : Int) = n
    · repeat' (first
    | with_reducible refine WP_seq ?_
    | ((first | with_reducible refine WP_skip ?_ | with_reducible refine SQ_nil ?_); (first | simp only [Exit.sel, Exit.blk] | simp only [EV2, EVB, stepH, gdOf, modeOf, effD, opD, putD, ofV, ofV1, D.cells, D.lay, D.one, condP, Exit.sel, Exit.blk, RetP, oneOf, resD, putAt, nilD, extrD, fillD, buildD, mapPutD, mapDelD, mapEntD, entPutD, newMapD, moveD, boundD, makeD, appendD, liveD, reduceCtorEq, if_true, if_false, ne_eq, ty_pt_25, ty_sz_70, ty_pt_66, ty_sz_68, ty_fd_70_1, ty_sz_65, ty_ag_65, ty_mu_65, ty_ma_65, ty_fd_70_0, ty_sz_3, ty_ag_3, ty_ki_3, ty_zc_68, ty_pl_68, ty_ar_68, ty_zr_66, ty_fd_68_2, ty_sz_4, ty_ag_4, ty_fd_68_1, Try.results11, hc, hm, hlen, hn]))
    | ((first | with_reducible refine WP_cond ?_ | with_reducible refine WP_ret ?_ | ((with_reducible refine SQr rfl ?_); intro rest hrest)); simp only [EV2, EVB, stepH, gdOf, modeOf, effD, opD, putD, ofV, ofV1, D.cells, D.lay, D.one, condP, Exit.sel, Exit.blk, RetP, oneOf, resD, putAt, nilD, extrD, fillD, buildD, mapPutD, mapDelD, mapEntD, entPutD, newMapD, moveD, boundD, makeD, appendD, liveD, reduceCtorEq, if_true, if_false, ne_eq, ty_pt_25, ty_sz_70, ty_pt_66, ty_sz_68, ty_fd_70_1, ty_sz_65, ty_ag_65, ty_mu_65, ty_ma_65, ty_fd_70_0, ty_sz_3, ty_ag_3, ty_ki_3, ty_zc_68, ty_pl_68, ty_ar_68, ty_zr_66, ty_fd_68_2, ty_sz_4, ty_ag_4, ty_fd_68_1, Try.results11, hc, hm, hlen, hn])
    | with_reducible refine WP_block ?_
    | ((with_reducible refine WP_exit ?_); simp only [Exit.sel, Exit.blk, reduceIte, eq_self, Nat.reduceEqDiff, Nat.zero_ne_one, Nat.one_ne_zero])
    | ((with_reducible refine hrest _ ?_); clear hrest rest)
    | with_reducible refine WP_reg (fun _ => none) (fun _ => 0) (gamma0 _) ?_
    | with_reducible refine WP_draw (fun _ => none) (fun _ => 0) (gamma0 _) (by kernel_rfl) (by kernel_rfl) ?_
    | ((with_reducible refine ifP (fun _ => ?_) (fun _ => ?_)) <;> try (exfalso; omega))
    | (with_reducible refine And.intro ?_ ?_)
    | ((with_reducible refine (id ?_ : (_ : Nat) ≤ _)); omega))
      refine (room_calls H0).mono fun d h3 ⟨hd, F2, H2, f2⟩ => ?_
      subst hd
      (with_reducible refine hrest _ ?_); clear hrest rest
      by_cases hf : (ids.map en).any free = true
      · obtain ⟨m2, r2, ids2, en2, H3, rfl, hL⟩ := H2
        have hl2 : lk k ids2 en2 = none := by
          have e1 : fnd k (ids.map en) = none := by rw [fnd_map, hl]; rfl
          have e2 : fnd k (ids2.map en2) = none := by
            rw [← hL]
            exact List.find?_eq_none.2 fun e he => List.find?_eq_none.1 e1 e (List.mem_of_mem_eraseP he)
          rw [fnd_map] at e2
          simpa using e2
        obtain ⟨mes2, clock2, pr2, hm2, g1, g2⟩ := H3.mp
        have hc2 := H3.hc
        simp only [hf, if_true]
        rw [hL]
        try simp only [EV2, EVB, stepH, gdOf, modeOf, effD, opD, putD, ofV, ofV1, D.cells, D.lay, D.one, condP, Exit.sel, Exit.blk, RetP, oneOf, resD, putAt, nilD, extrD, fillD, buildD, mapPutD, mapDelD, mapEntD, entPutD, newMapD, moveD, boundD, makeD, appendD, liveD, reduceCtorEq, if_true, if_false, ne_eq, ty_pt_25, ty_sz_70, ty_pt_66, ty_sz_68, ty_fd_70_1, ty_sz_65, ty_ag_65, ty_mu_65, ty_ma_65, ty_fd_70_0, ty_sz_3, ty_ag_3, ty_ki_3, ty_zc_68, ty_pl_68, ty_ar_68, ty_zr_66, ty_fd_68_2, ty_sz_4, ty_ag_4, ty_fd_68_1, Try.results11, hf]
        repeat' (first
    | with_reducible refine WP_seq ?_
    | ((first | with_reducible refine WP_skip ?_ | with_reducible refine SQ_nil ?_); (first | simp only [Exit.sel, Exit.blk] | simp only [EV2, EVB, stepH, gdOf, modeOf, effD, opD, putD, ofV, ofV1, D.cells, D.lay, D.one, condP, Exit.sel, Exit.blk, RetP, oneOf, resD, putAt, nilD, extrD, fillD, buildD, mapPutD, mapDelD, mapEntD, entPutD, newMapD, moveD, boundD, makeD, appendD, liveD, reduceCtorEq, if_true, if_false, ne_eq, ty_pt_25, ty_sz_70, ty_pt_66, ty_sz_68, ty_fd_70_1, ty_sz_65, ty_ag_65, ty_mu_65, ty_ma_65, ty_fd_70_0, ty_sz_3, ty_ag_3, ty_ki_3, ty_zc_68, ty_pl_68, ty_ar_68, ty_zr_66, ty_fd_68_2, ty_sz_4, ty_ag_4, ty_fd_68_1, Try.results11, hf, kC, kD, vD]))
    | ((first | with_reducible refine WP_cond ?_ | with_reducible refine WP_ret ?_ | ((with_reducible refine SQr rfl ?_); intro rest hrest)); simp only [EV2, EVB, stepH, gdOf, modeOf, effD, opD, putD, ofV, ofV1, D.cells, D.lay, D.one, condP, Exit.sel, Exit.blk, RetP, oneOf, resD, putAt, nilD, extrD, fillD, buildD, mapPutD, mapDelD, mapEntD, entPutD, newMapD, moveD, boundD, makeD, appendD, liveD, reduceCtorEq, if_true, if_false, ne_eq, ty_pt_25, ty_sz_70, ty_pt_66, ty_sz_68, ty_fd_70_1, ty_sz_65, ty_ag_65, ty_mu_65, ty_ma_65, ty_fd_70_0, ty_sz_3, ty_ag_3, ty_ki_3, ty_zc_68, ty_pl_68, ty_ar_68, ty_zr_66, ty_fd_68_2, ty_sz_4, ty_ag_4, ty_fd_68_1, Try.results11, hf, kC, kD, vD])
    | with_reducible refine WP_block ?_
    | ((with_reducible refine WP_exit ?_); simp only [Exit.sel, Exit.blk, reduceIte, eq_self, Nat.reduceEqDiff, Nat.zero_ne_one, Nat.one_ne_zero])
    | ((with_reducible refine hrest _ ?_); clear hrest rest)
    | with_reducible refine WP_reg (fun _ => none) (fun | 34 => 1 | _ => 0) (gamma0 _) ?_
    | with_reducible refine WP_draw (fun _ => none) (fun | 34 => 1 | _ => 0) (gamma0 _) (by kernel_rfl) (by kernel_rfl) ?_
    | ((with_reducible refine ifP (fun _ => ?_) (fun _ => ?_)) <;> try (exfalso; omega))
    | (with_reducible refine And.intro ?_ ?_)
    | ((with_reducible refine (id ?_ : (_ : Nat) ≤ _)); omega))
        intro x hx hx0
        have hcx : c ≠ x := fun e => by rw [e, hx] at hc2; simp at hc2
        have hmx : m2 ≠ x := fun e => by rw [e, hx] at hm2; simp at hm2
        have hxm : x ≠ m2 := fun e => hmx e.symm
        have hcm : c ≠ m2 := H3.ne.2.2
        have hks := fun t ht => keysOk_pr t ht mes2 pr2 g1
        repeat' (first
    | with_reducible refine WP_seq ?_
    | ((first | with_reducible refine WP_skip ?_ | with_reducible refine SQ_nil ?_); (first | simp only [Exit.sel, Exit.blk] | simp only [EV2, EVB, stepH, gdOf, modeOf, effD, opD, putD, ofV, ofV1, D.cells, D.lay, D.one, condP, Exit.sel, Exit.blk, RetP, oneOf, resD, putAt, nilD, extrD, fillD, buildD, mapPutD, mapDelD, mapEntD, entPutD, newMapD, moveD, boundD, makeD, appendD, liveD, reduceCtorEq, if_true, if_false, ne_eq, ty_pt_25, ty_sz_70, ty_pt_66, ty_sz_68, ty_fd_70_1, ty_sz_65, ty_ag_65, ty_mu_65, ty_ma_65, ty_fd_70_0, ty_sz_3, ty_ag_3, ty_ki_3, ty_zc_68, ty_pl_68, ty_ar_68, ty_zr_66, ty_fd_68_2, ty_sz_4, ty_ag_4, ty_fd_68_1, Try.results11, hc2, hm2, hks, kC, kD, vD, Heap.upd_ne, hcx, hmx, hxm, hcm]))
    | ((first | with_reducible refine WP_cond ?_ | with_reducible refine WP_ret ?_ | ((with_reducible refine SQr rfl ?_); intro rest hrest)); simp only [EV2, EVB, stepH, gdOf, modeOf, effD, opD, putD, ofV, ofV1, D.cells, D.lay, D.one, condP, Exit.sel, Exit.blk, RetP, oneOf, resD, putAt, nilD, extrD, fillD, buildD, mapPutD, mapDelD, mapEntD, entPutD, newMapD, moveD, boundD, makeD, appendD, liveD, reduceCtorEq, if_true, if_false, ne_eq, ty_pt_25, ty_sz_70, ty_pt_66, ty_sz_68, ty_fd_70_1, ty_sz_65, ty_ag_65, ty_mu_65, ty_ma_65, ty_fd_70_0, ty_sz_3, ty_ag_3, ty_ki_3, ty_zc_68, ty_pl_68, ty_ar_68, ty_zr_66, ty_fd_68_2, ty_sz_4, ty_ag_4, ty_fd_68_1, Try.results11, hc2, hm2, hks, kC, kD, vD, Heap.upd_ne, hcx, hmx, hxm, hcm])
    | with_reducible refine WP_block ?_
    | ((with_reducible refine WP_exit ?_); simp only [Exit.sel, Exit.blk, reduceIte, eq_self, Nat.reduceEqDiff, Nat.zero_ne_one, Nat.one_ne_zero])
    | ((with_reducible refine hrest _ ?_); clear hrest rest)
    | with_reducible refine WP_reg (fun _ => none) (fun | 34 => 1 | _ => 0) (gamma0 _) ?_
    | with_reducible refine WP_draw (fun _ => none) (fun | 34 => 1 | _ => 0) (gamma0 _) (by kernel_rfl) (by kernel_rfl) ?_
    | ((with_reducible refine ifP (fun _ => ?_) (fun _ => ?_)) <;> try (exfalso; omega))
    | (with_reducible refine And.intro ?_ ?_)
    | ((with_reducible refine (id ?_ : (_ : Nat) ≤ _)); omega))
        refine (Ca.insert (h := h3) (clock := clock2) (e := ⟨k, v, dirty, 0⟩) H3 hl2 rfl hx g1 g2 ?_ ?_ fun j hj1 hj2 => ?_).mono fun _ h3 hd => ?_
        · simp [Heap.upd, hmx, kD]
        · simp [Heap.upd, hxm, kC, vD]
        · simp [Heap.upd, hj1, hj2]
        repeat' (first
    | with_reducible refine WP_seq ?_
    | ((first | with_reducible refine WP_skip ?_ | with_reducible refine SQ_nil ?_); (first | simp only [Exit.sel, Exit.blk] | simp only [EV2, EVB, stepH, gdOf, modeOf, effD, opD, putD, ofV, ofV1, D.cells, D.lay, D.one, condP, Exit.sel, Exit.blk, RetP, oneOf, resD, putAt, nilD, extrD, fillD, buildD, mapPutD, mapDelD, mapEntD, entPutD, newMapD, moveD, boundD, makeD, appendD, liveD, reduceCtorEq, if_true, if_false, ne_eq, ty_pt_25, ty_sz_70, ty_pt_66, ty_sz_68, ty_fd_70_1, ty_sz_65, ty_ag_65, ty_mu_65, ty_ma_65, ty_fd_70_0, ty_sz_3, ty_ag_3, ty_ki_3, ty_zc_68, ty_pl_68, ty_ar_68, ty_zr_66, ty_fd_68_2, ty_sz_4, ty_ag_4, ty_fd_68_1, Try.results11]))
    | ((first | with_reducible refine WP_cond ?_ | with_reducible refine WP_ret ?_ | ((with_reducible refine SQr rfl ?_); intro rest hrest)); simp only [EV2, EVB, stepH, gdOf, modeOf, effD, opD, putD, ofV, ofV1, D.cells, D.lay, D.one, condP, Exit.sel, Exit.blk, RetP, oneOf, resD, putAt, nilD, extrD, fillD, buildD, mapPutD, mapDelD, mapEntD, entPutD, newMapD, moveD, boundD, makeD, appendD, liveD, reduceCtorEq, if_true, if_false, ne_eq, ty_pt_25, ty_sz_70, ty_pt_66, ty_sz_68, ty_fd_70_1, ty_sz_65, ty_ag_65, ty_mu_65, ty_ma_65, ty_fd_70_0, ty_sz_3, ty_ag_3, ty_ki_3, ty_zc_68, ty_pl_68, ty_ar_68, ty_zr_66, ty_fd_68_2, ty_sz_4, ty_ag_4, ty_fd_68_1, Try.results11])
    | with_reducible refine WP_block ?_
    | ((with_reducible refine WP_exit ?_); simp only [Exit.sel, Exit.blk, reduceIte, eq_self, Nat.reduceEqDiff, Nat.zero_ne_one, Nat.one_ne_zero])
    | ((with_reducible refine hrest _ ?_); clear hrest rest)
    | with_reducible refine WP_reg (fun _ => none) (fun _ => 0) (gamma0 _) ?_
    | with_reducible refine WP_draw (fun _ => none) (fun _ => 0) (gamma0 _) (by kernel_rfl) (by kernel_rfl) ?_
    | ((with_reducible refine ifP (fun _ => ?_) (fun _ => ?_)) <;> try (exfalso; omega))
    | (with_reducible refine And.intro ?_ ?_)
    | ((with_reducible refine (id ?_ : (_ : Nat) ≤ _)); omega))
        obtain ⟨F3, q1, q2⟩ := hd
        exact ⟨F3, q1, f2.trans q2⟩
      · simp only [hf, if_false]
        have e1 : (ids.map en).eraseP free = ids.map en := List.eraseP_of_forall_not fun e he hh => hf (List.any_eq_true.2 ⟨e, he, hh⟩)
        rw [e1] at H2
        try simp only [EV2, EVB, stepH, gdOf, modeOf, effD, opD, putD, ofV, ofV1, D.cells, D.lay, D.one, condP, Exit.sel, Exit.blk, RetP, oneOf, resD, putAt, nilD, extrD, fillD, buildD, mapPutD, mapDelD, mapEntD, entPutD, newMapD, moveD, boundD, makeD, appendD, liveD, reduceCtorEq, if_true, if_false, ne_eq, ty_pt_25, ty_sz_70, ty_pt_66, ty_sz_68, ty_fd_70_1, ty_sz_65, ty_ag_65, ty_mu_65, ty_ma_65, ty_fd_70_0, ty_sz_3, ty_ag_3, ty_ki_3, ty_zc_68, ty_pl_68, ty_ar_68, ty_zr_66, ty_fd_68_2, ty_sz_4, ty_ag_4, ty_fd_68_1, Try.results11, hf]
        repeat' (first
    | with_reducible refine WP_seq ?_
    | ((first | with_reducible refine WP_skip ?_ | with_reducible refine SQ_nil ?_); (first | simp only [Exit.sel, Exit.blk] | simp only [EV2, EVB, stepH, gdOf, modeOf, effD, opD, putD, ofV, ofV1, D.cells, D.lay, D.one, condP, Exit.sel, Exit.blk, RetP, oneOf, resD, putAt, nilD, extrD, fillD, buildD, mapPutD, mapDelD, mapEntD, entPutD, newMapD, moveD, boundD, makeD, appendD, liveD, reduceCtorEq, if_true, if_false, ne_eq, ty_pt_25, ty_sz_70, ty_pt_66, ty_sz_68, ty_fd_70_1, ty_sz_65, ty_ag_65, ty_mu_65, ty_ma_65, ty_fd_70_0, ty_sz_3, ty_ag_3, ty_ki_3, ty_zc_68, ty_pl_68, ty_ar_68, ty_zr_66, ty_fd_68_2, ty_sz_4, ty_ag_4, ty_fd_68_1, Try.results11, hf]))
    | ((first | with_reducible refine WP_cond ?_ | with_reducible refine WP_ret ?_ | ((with_reducible refine SQr rfl ?_); intro rest hrest)); simp only [EV2, EVB, stepH, gdOf, modeOf, effD, opD, putD, ofV, ofV1, D.cells, D.lay, D.one, condP, Exit.sel, Exit.blk, RetP, oneOf, resD, putAt, nilD, extrD, fillD, buildD, mapPutD, mapDelD, mapEntD, entPutD, newMapD, moveD, boundD, makeD, appendD, liveD, reduceCtorEq, if_true, if_false, ne_eq, ty_pt_25, ty_sz_70, ty_pt_66, ty_sz_68, ty_fd_70_1, ty_sz_65, ty_ag_65, ty_mu_65, ty_ma_65, ty_fd_70_0, ty_sz_3, ty_ag_3, ty_ki_3, ty_zc_68, ty_pl_68, ty_ar_68, ty_zr_66, ty_fd_68_2, ty_sz_4, ty_ag_4, ty_fd_68_1, Try.results11, hf])
    | with_reducible refine WP_block ?_
    | ((with_reducible refine WP_exit ?_); simp only [Exit.sel, Exit.blk, reduceIte, eq_self, Nat.reduceEqDiff, Nat.zero_ne_one, Nat.one_ne_zero])
    | ((with_reducible refine hrest _ ?_); clear hrest rest)
    | with_reducible refine WP_reg (fun _ => none) (fun _ => 0) (gamma0 _) ?_
    | with_reducible refine WP_draw (fun _ => none) (fun _ => 0) (gamma0 _) (by kernel_rfl) (by kernel_rfl) ?_
    | ((with_reducible refine ifP (fun _ => ?_) (fun _ => ?_)) <;> try (exfalso; omega))
    | (with_reducible refine And.intro ?_ ?_)
    | ((with_reducible refine (id ?_ : (_ : Nat) ≤ _)); omega))
        exact ⟨_, H2, f2⟩
    · repeat' (first
    | with_reducible refine WP_seq ?_
    | ((first | with_reducible refine WP_skip ?_ | with_reducible refine SQ_nil ?_); (first | simp only [Exit.sel, Exit.blk] | simp only [EV2, EVB, stepH, gdOf, modeOf, effD, opD, putD, ofV, ofV1, D.cells, D.lay, D.one, condP, Exit.sel, Exit.blk, RetP, oneOf, resD, putAt, nilD, extrD, fillD, buildD, mapPutD, mapDelD, mapEntD, entPutD, newMapD, moveD, boundD, makeD, appendD, liveD, reduceCtorEq, if_true, if_false, ne_eq, ty_pt_25, ty_sz_70, ty_pt_66, ty_sz_68, ty_fd_70_1, ty_sz_65, ty_ag_65, ty_mu_65, ty_ma_65, ty_fd_70_0, ty_sz_3, ty_ag_3, ty_ki_3, ty_zc_68, ty_pl_68, ty_ar_68, ty_zr_66, ty_fd_68_2, ty_sz_4, ty_ag_4, ty_fd_68_1, Try.results11, hc, hm, hlen, hn, kC, kD, vD]))
    | ((first | with_reducible refine WP_cond ?_ | with_reducible refine WP_ret ?_ | ((with_reducible refine SQr rfl ?_); intro rest hrest)); simp only [EV2, EVB, stepH, gdOf, modeOf, effD, opD, putD, ofV, ofV1, D.cells, D.lay, D.one, condP, Exit.sel, Exit.blk, RetP, oneOf, resD, putAt, nilD, extrD, fillD, buildD, mapPutD, mapDelD, mapEntD, entPutD, newMapD, moveD, boundD, makeD, appendD, liveD, reduceCtorEq, if_true, if_false, ne_eq, ty_pt_25, ty_sz_70, ty_pt_66, ty_sz_68, ty_fd_70_1, ty_sz_65, ty_ag_65, ty_mu_65, ty_ma_65, ty_fd_70_0, ty_sz_3, ty_ag_3, ty_ki_3, ty_zc_68, ty_pl_68, ty_ar_68, ty_zr_66, ty_fd_68_2, ty_sz_4, ty_ag_4, ty_fd_68_1, Try.results11, hc, hm, hlen, hn, kC, kD, vD])
    | with_reducible refine WP_block ?_
    | ((with_reducible refine WP_exit ?_); simp only [Exit.sel, Exit.blk, reduceIte, eq_self, Nat.reduceEqDiff, Nat.zero_ne_one, Nat.one_ne_zero])
    | ((with_reducible refine hrest _ ?_); clear hrest rest)
    | with_reducible refine WP_reg (fun _ => none) (fun | 34 => 1 | _ => 0) (gamma0 _) ?_
    | with_reducible refine WP_draw (fun _ => none) (fun | 34 => 1 | _ => 0) (gamma0 _) (by kernel_rfl) (by kernel_rfl) ?_
    | ((with_reducible refine ifP (fun _ => ?_) (fun _ => ?_)) <;> try (exfalso; omega))
    | (with_reducible refine And.intro ?_ ?_)
    | ((with_reducible refine (id ?_ : (_ : Nat) ≤ _)); omega))
      intro x hx hx0
      have hcx : c ≠ x := fun e => by rw [e, hx] at hc; simp at hc
      have hmx : m ≠ x := fun e => by rw [e, hx] at hm; simp at hm
      have hxm : x ≠ m := fun e => hmx e.symm
      have hcm : c ≠ m := H.ne.2.2
      have hks := fun t ht => keysOk_pr t ht mes pr h1
      repeat' (first
    | with_reducible refine WP_seq ?_
    | ((first | with_reducible refine WP_skip ?_ | with_reducible refine SQ_nil ?_); (first | simp only [Exit.sel, Exit.blk] | simp only [EV2, EVB, stepH, gdOf, modeOf, effD, opD, putD, ofV, ofV1, D.cells, D.lay, D.one, condP, Exit.sel, Exit.blk, RetP, oneOf, resD, putAt, nilD, extrD, fillD, buildD, mapPutD, mapDelD, mapEntD, entPutD, newMapD, moveD, boundD, makeD, appendD, liveD, reduceCtorEq, if_true, if_false, ne_eq, ty_pt_25, ty_sz_70, ty_pt_66, ty_sz_68, ty_fd_70_1, ty_sz_65, ty_ag_65, ty_mu_65, ty_ma_65, ty_fd_70_0, ty_sz_3, ty_ag_3, ty_ki_3, ty_zc_68, ty_pl_68, ty_ar_68, ty_zr_66, ty_fd_68_2, ty_sz_4, ty_ag_4, ty_fd_68_1, Try.results11, hc, hm, hks, kC, kD, vD, Heap.upd_ne, hcx, hmx, hxm, hcm]))
    | ((first | with_reducible refine WP_cond ?_ | with_reducible refine WP_ret ?_ | ((with_reducible refine SQr rfl ?_); intro rest hrest)); simp only [EV2, EVB, stepH, gdOf, modeOf, effD, opD, putD, ofV, ofV1, D.cells, D.lay, D.one, condP, Exit.sel, Exit.blk, RetP, oneOf, resD, putAt, nilD, extrD, fillD, buildD, mapPutD, mapDelD, mapEntD, entPutD, newMapD, moveD, boundD, makeD, appendD, liveD, reduceCtorEq, if_true, if_false, ne_eq, ty_pt_25, ty_sz_70, ty_pt_66, ty_sz_68, ty_fd_70_1, ty_sz_65, ty_ag_65, ty_mu_65, ty_ma_65, ty_fd_70_0, ty_sz_3, ty_ag_3, ty_ki_3, ty_zc_68, ty_pl_68, ty_ar_68, ty_zr_66, ty_fd_68_2, ty_sz_4, ty_ag_4, ty_fd_68_1, Try.results11, hc, hm, hks, kC, kD, vD, Heap.upd_ne, hcx, hmx, hxm, hcm])
    | with_reducible refine WP_block ?_
    | ((with_reducible refine WP_exit ?_); simp only [Exit.sel, Exit.blk, reduceIte, eq_self, Nat.reduceEqDiff, Nat.zero_ne_one, Nat.one_ne_zero])
    | ((with_reducible refine hrest _ ?_); clear hrest rest)
    | with_reducible refine WP_reg (fun _ => none) (fun | 34 => 1 | _ => 0) (gamma0 _) ?_
    | with_reducible refine WP_draw (fun _ => none) (fun | 34 => 1 | _ => 0) (gamma0 _) (by kernel_rfl) (by kernel_rfl) ?_
    | ((with_reducible refine ifP (fun _ => ?_) (fun _ => ?_)) <;> try (exfalso; omega))
    | (with_reducible refine And.intro ?_ ?_)
    | ((with_reducible refine (id ?_ : (_ : Nat) ≤ _)); omega))
      refine (Ca.insert (h := h') (clock := clock) (e := ⟨k, v, dirty, 0⟩) H hl rfl hx h1 h2 ?_ ?_ fun j hj1 hj2 => ?_).mono fun _ h3 hd => ?_
      · simp [Heap.upd, hmx, kD]
      · simp [Heap.upd, hxm, kC, vD]
      · simp [Heap.upd, hj1, hj2]
      repeat' (first
    | with_reducible refine WP_seq ?_
    | ((first | with_reducible refine WP_skip ?_ | with_reducible refine SQ_nil ?_); (first | simp only [Exit.sel, Exit.blk] | simp only [EV2, EVB, stepH, gdOf, modeOf, effD, opD, putD, ofV, ofV1, D.cells, D.lay, D.one, condP, Exit.sel, Exit.blk, RetP, oneOf, resD, putAt, nilD, extrD, fillD, buildD, mapPutD, mapDelD, mapEntD, entPutD, newMapD, moveD, boundD, makeD, appendD, liveD, reduceCtorEq, if_true, if_false, ne_eq, ty_pt_25, ty_sz_70, ty_pt_66, ty_sz_68, ty_fd_70_1, ty_sz_65, ty_ag_65, ty_mu_65, ty_ma_65, ty_fd_70_0, ty_sz_3, ty_ag_3, ty_ki_3, ty_zc_68, ty_pl_68, ty_ar_68, ty_zr_66, ty_fd_68_2, ty_sz_4, ty_ag_4, ty_fd_68_1, Try.results11]))
    | ((first | with_reducible refine WP_cond ?_ | with_reducible refine WP_ret ?_ | ((with_reducible refine SQr rfl ?_); intro rest hrest)); simp only [EV2, EVB, stepH, gdOf, modeOf, effD, opD, putD, ofV, ofV1, D.cells, D.lay, D.one, condP, Exit.sel, Exit.blk, RetP, oneOf, resD, putAt, nilD, extrD, fillD, buildD, mapPutD, mapDelD, mapEntD, entPutD, newMapD, moveD, boundD, makeD, appendD, liveD, reduceCtorEq, if_true, if_false, ne_eq, ty_pt_25, ty_sz_70, ty_pt_66, ty_sz_68, ty_fd_70_1, ty_sz_65, ty_ag_65, ty_mu_65, ty_ma_65, ty_fd_70_0, ty_sz_3, ty_ag_3, ty_ki_3, ty_zc_68, ty_pl_68, ty_ar_68, ty_zr_66, ty_fd_68_2, ty_sz_4, ty_ag_4, ty_fd_68_1, Try.results11])
    | with_reducible refine WP_block ?_
    | ((with_reducible refine WP_exit ?_); simp only [Exit.sel, Exit.blk, reduceIte, eq_self, Nat.reduceEqDiff, Nat.zero_ne_one, Nat.one_ne_zero])
    | ((with_reducible refine hrest _ ?_); clear hrest rest)
    | with_reducible refine WP_reg (fun _ => none) (fun _ => 0) (gamma0 _) ?_
    | with_reducible refine WP_draw (fun _ => none) (fun _ => 0) (gamma0 _) (by kernel_rfl) (by kernel_rfl) ?_
    | ((with_reducible refine ifP (fun _ => ?_) (fun _ => ?_)) <;> try (exfalso; omega))
    | (with_reducible refine And.intro ?_ ?_)
    | ((with_reducible refine (id ?_ : (_ : Nat) ≤ _)); omega))
      exact hd
end Go.Proofs.Ytcjndiagbdkikaa.I
