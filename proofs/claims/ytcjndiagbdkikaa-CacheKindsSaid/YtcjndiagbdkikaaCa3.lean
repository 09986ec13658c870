/- An entry used: it stands at the end. No condition. -/
import Derived.Test.YtcjndiagbdkikaaCa2
set_option linter.unusedSimpArgs false
set_option linter.unusedVariables false
namespace Go.Proofs.Ytcjndiagbdkikaa.I

/-- With the entry out of the ring. -/
theorem use_core {h : Heap} {c m r x : Nat} {n : Int} {ids : List Nat} {en : Nat → Ent} (hc : h c = some (.cells [.int .i64 n, .mp m, .ptr r 0])) (hcx : c ∉ r :: x :: ids)
    (ho : CallsA Try.prog 48 [.ptr x 0] h fun _ h1 => h1 c = h c ∧ (∀ i, i ∉ r :: x :: ids → h1 i = h i) ∧ ∃ pv nx u v, Rg h1 r ids en pv nx ∧ x ∉ r :: ids ∧ h1 x = some (.cells (kC (en x).key ++ [vD (en x).val, .bool (en x).dirty, .int .i64 (en x).pins, u, v]))) :
    CallsA Try.prog 37 [.ptr c 0, .ptr x 0] h fun _ h' => (∃ pv nx, Rg h' r (ids ++ [x]) en pv nx) ∧ ∀ i, i ∉ r :: x :: ids → h' i = h i := by
  refine CallsA_body Try.func37 rfl en_37 ?_
  simp only [Try.ntmps37, List.length_cons, List.length_nil, List.replicate]
  repeat' (first
    | with_reducible refine WP_seq ?_
    | ((first | with_reducible refine WP_skip ?_ | with_reducible refine SQ_nil ?_); (first | simp only [Exit.sel, Exit.blk] | simp only [EV2, EVB, stepH, gdOf, modeOf, effD, opD, putD, ofV, ofV1, D.cells, D.lay, D.one, condP, Exit.sel, Exit.blk, RetP, oneOf, resD, putAt, nilD, extrD, fillD, buildD, mapPutD, mapDelD, mapEntD, entPutD, newMapD, moveD, boundD, makeD, appendD, liveD, reduceCtorEq, if_true, if_false, ne_eq, ty_fd_70_2, ty_sz_66, ty_ag_66, ty_fd_68_4, ty_fd_68_5, Try.results37, hc]))
    | ((first | with_reducible refine WP_cond ?_ | with_reducible refine WP_ret ?_ | ((with_reducible refine SQr rfl ?_); intro rest hrest)); simp only [EV2, EVB, stepH, gdOf, modeOf, effD, opD, putD, ofV, ofV1, D.cells, D.lay, D.one, condP, Exit.sel, Exit.blk, RetP, oneOf, resD, putAt, nilD, extrD, fillD, buildD, mapPutD, mapDelD, mapEntD, entPutD, newMapD, moveD, boundD, makeD, appendD, liveD, reduceCtorEq, if_true, if_false, ne_eq, ty_fd_70_2, ty_sz_66, ty_ag_66, ty_fd_68_4, ty_fd_68_5, Try.results37, hc])
    | with_reducible refine WP_block ?_
    | ((with_reducible refine WP_exit ?_); simp only [Exit.sel, Exit.blk, reduceIte, eq_self, Nat.reduceEqDiff, Nat.zero_ne_one, Nat.one_ne_zero])
    | ((with_reducible refine hrest _ ?_); clear hrest rest)
    | with_reducible refine WP_reg (fun _ => none) (fun _ => 0) (gamma0 _) ?_
    | with_reducible refine WP_draw (fun _ => none) (fun _ => 0) (gamma0 _) (by kernel_rfl) (by kernel_rfl) ?_
    | ((with_reducible refine ifP (fun _ => ?_) (fun _ => ?_)) <;> try (exfalso; omega))
    | (with_reducible refine And.intro ?_ ?_)
    | ((with_reducible refine (id ?_ : (_ : Nat) ≤ _)); omega))
  refine ho.mono fun _ h1 ⟨hc1, hf, pv, nx, u, v, H, hx, hxc⟩ => ?_
  rw [hc] at hc1
  clear ho hc
  have hpm : pv r ∈ r :: ids := H.ch.pv_mem
  have hr := H.nd r (by simp)
  have hp := H.nd _ hpm
  have hxr : x ≠ r := fun e => hx (by simp [e])
  have hrx : r ≠ x := fun e => hxr e.symm
  have hxp : x ≠ pv r := fun e => hx (by rw [e]; exact hpm)
  have hpx : pv r ≠ x := fun e => hxp e.symm
  have hcx' : c ≠ x := fun e => hcx (by simp [e])
  have hfr : ∀ i, i ∉ r :: x :: ids → i ≠ r ∧ i ≠ x ∧ i ≠ pv r := fun i hi => ⟨fun e => hi (by simp [e]), fun e => hi (by simp [e]), fun e => hi (by
    rw [e]; simp only [List.mem_cons] at hpm ⊢
    rcases hpm with h | h <;> simp [h])⟩
  by_cases hpr : pv r = r
  · repeat' (first
    | with_reducible refine WP_seq ?_
    | ((first | with_reducible refine WP_skip ?_ | with_reducible refine SQ_nil ?_); (first | simp only [Exit.sel, Exit.blk] | simp only [EV2, EVB, stepH, gdOf, modeOf, effD, opD, putD, ofV, ofV1, D.cells, D.lay, D.one, condP, Exit.sel, Exit.blk, RetP, oneOf, resD, putAt, nilD, extrD, fillD, buildD, mapPutD, mapDelD, mapEntD, entPutD, newMapD, moveD, boundD, makeD, appendD, liveD, reduceCtorEq, if_true, if_false, ne_eq, ty_fd_70_2, ty_sz_66, ty_ag_66, ty_fd_68_4, ty_fd_68_5, Try.results37, hc1, hr, hxc, nodeC, kC, vD, hpr, Heap.upd_ne, hxr, hrx, hcx']))
    | ((first | with_reducible refine WP_cond ?_ | with_reducible refine WP_ret ?_ | ((with_reducible refine SQr rfl ?_); intro rest hrest)); simp only [EV2, EVB, stepH, gdOf, modeOf, effD, opD, putD, ofV, ofV1, D.cells, D.lay, D.one, condP, Exit.sel, Exit.blk, RetP, oneOf, resD, putAt, nilD, extrD, fillD, buildD, mapPutD, mapDelD, mapEntD, entPutD, newMapD, moveD, boundD, makeD, appendD, liveD, reduceCtorEq, if_true, if_false, ne_eq, ty_fd_70_2, ty_sz_66, ty_ag_66, ty_fd_68_4, ty_fd_68_5, Try.results37, hc1, hr, hxc, nodeC, kC, vD, hpr, Heap.upd_ne, hxr, hrx, hcx'])
    | with_reducible refine WP_block ?_
    | ((with_reducible refine WP_exit ?_); simp only [Exit.sel, Exit.blk, reduceIte, eq_self, Nat.reduceEqDiff, Nat.zero_ne_one, Nat.one_ne_zero])
    | ((with_reducible refine hrest _ ?_); clear hrest rest)
    | with_reducible refine WP_reg (fun _ => none) (fun _ => 0) (gamma0 _) ?_
    | with_reducible refine WP_draw (fun _ => none) (fun _ => 0) (gamma0 _) (by kernel_rfl) (by kernel_rfl) ?_
    | ((with_reducible refine ifP (fun _ => ?_) (fun _ => ?_)) <;> try (exfalso; omega))
    | (with_reducible refine And.intro ?_ ?_)
    | ((with_reducible refine (id ?_ : (_ : Nat) ≤ _)); omega))
    · refine ⟨_, _, H.add hx (fun _ _ => rfl) (fun i hi hip => ?_) ?_ (fun hn => absurd hpr hn) (fun _ => ?_)⟩
      · have h1 : i ≠ x := fun e => hx (by simp [← e, hi])
        rw [hpr] at hip
        simp [Heap.upd, h1, hip]
      · simp [Heap.upd, hxr, nodeC, kC, vD, hpr]
      · simp [Heap.upd, nodeC, kC, vD]
    · intro i hi
      obtain ⟨h1, h2, h3⟩ := hfr i hi
      rw [← hf i hi]
      simp [Heap.upd, h1, h2]
  · have hrp : r ≠ pv r := fun e => hpr e.symm
    repeat' (first
    | with_reducible refine WP_seq ?_
    | ((first | with_reducible refine WP_skip ?_ | with_reducible refine SQ_nil ?_); (first | simp only [Exit.sel, Exit.blk] | simp only [EV2, EVB, stepH, gdOf, modeOf, effD, opD, putD, ofV, ofV1, D.cells, D.lay, D.one, condP, Exit.sel, Exit.blk, RetP, oneOf, resD, putAt, nilD, extrD, fillD, buildD, mapPutD, mapDelD, mapEntD, entPutD, newMapD, moveD, boundD, makeD, appendD, liveD, reduceCtorEq, if_true, if_false, ne_eq, ty_fd_70_2, ty_sz_66, ty_ag_66, ty_fd_68_4, ty_fd_68_5, Try.results37, hc1, hr, hp, hxc, nodeC, kC, vD, hpr, hrp, Heap.upd_ne, hxr, hrx, hcx', hxp, hpx]))
    | ((first | with_reducible refine WP_cond ?_ | with_reducible refine WP_ret ?_ | ((with_reducible refine SQr rfl ?_); intro rest hrest)); simp only [EV2, EVB, stepH, gdOf, modeOf, effD, opD, putD, ofV, ofV1, D.cells, D.lay, D.one, condP, Exit.sel, Exit.blk, RetP, oneOf, resD, putAt, nilD, extrD, fillD, buildD, mapPutD, mapDelD, mapEntD, entPutD, newMapD, moveD, boundD, makeD, appendD, liveD, reduceCtorEq, if_true, if_false, ne_eq, ty_fd_70_2, ty_sz_66, ty_ag_66, ty_fd_68_4, ty_fd_68_5, Try.results37, hc1, hr, hp, hxc, nodeC, kC, vD, hpr, hrp, Heap.upd_ne, hxr, hrx, hcx', hxp, hpx])
    | with_reducible refine WP_block ?_
    | ((with_reducible refine WP_exit ?_); simp only [Exit.sel, Exit.blk, reduceIte, eq_self, Nat.reduceEqDiff, Nat.zero_ne_one, Nat.one_ne_zero])
    | ((with_reducible refine hrest _ ?_); clear hrest rest)
    | with_reducible refine WP_reg (fun _ => none) (fun _ => 0) (gamma0 _) ?_
    | with_reducible refine WP_draw (fun _ => none) (fun _ => 0) (gamma0 _) (by kernel_rfl) (by kernel_rfl) ?_
    | ((with_reducible refine ifP (fun _ => ?_) (fun _ => ?_)) <;> try (exfalso; omega))
    | (with_reducible refine And.intro ?_ ?_)
    | ((with_reducible refine (id ?_ : (_ : Nat) ≤ _)); omega))
    · refine ⟨_, _, H.add hx (fun _ _ => rfl) (fun i hi hip => ?_) ?_ (fun _ => ⟨?_, ?_⟩) (fun hn => absurd hn hpr)⟩
      · have h1 : i ≠ x := fun e => hx (by simp [← e, hi])
        have h2 : i ≠ r := fun e => (List.nodup_cons.1 H.un).1 (e ▸ hi)
        simp [Heap.upd, h1, h2, hip]
      · simp [Heap.upd, hxr, hxp, nodeC, kC, vD]
      · simp [Heap.upd, hpr, nodeC, kC, vD]
      · simp [Heap.upd, nodeC, kC, vD]
    · intro i hi
      obtain ⟨h1, h2, h3⟩ := hfr i hi
      rw [← hf i hi]
      simp [Heap.upd, h1, h2, h3]

/-- An entry of the ring. -/
theorem use_in {h : Heap} {c m r x : Nat} {n : Int} {ids : List Nat} {en : Nat → Ent} {pv nx : Nat → Nat} (hc : h c = some (.cells [.int .i64 n, .mp m, .ptr r 0])) (H : Rg h r ids en pv nx) (hcx : c ∉ r :: ids) (hx : x ∈ ids) :
    CallsA Try.prog 37 [.ptr c 0, .ptr x 0] h fun _ h' => (∃ pv nx, Rg h' r (ids.erase x ++ [x]) en pv nx) ∧ ∀ i, i ∉ r :: ids → h' i = h i := by
  have hsub : ∀ i, i ∉ r :: ids → i ∉ r :: x :: ids.erase x := fun i hi => by
    simp only [List.mem_cons, not_or] at hi ⊢
    exact ⟨hi.1, fun e => hi.2 (e ▸ hx), fun e => hi.2 (List.mem_of_mem_erase e)⟩
  have hsub' : ∀ i, i ∉ r :: x :: ids.erase x → i ∉ r :: ids := fun i hi => by
    simp only [List.mem_cons, not_or] at hi ⊢
    exact ⟨hi.1, fun e => hi.2.2 ((List.mem_erase_of_ne hi.2.1).2 e)⟩
  refine (use_core (en := en) (ids := ids.erase x) hc (hsub c hcx) ?_).mono fun _ h' ⟨h1, h2⟩ => ⟨h1, fun i hi => h2 i (hsub i hi)⟩
  obtain ⟨l1, l2, l3, l4⟩ := H.links hx
  refine (out_calls h (r :: ids) en pv nx x H.nd (by simp [hx]) l1 l2 l3 l4).mono fun _ h1 ⟨g1, g2⟩ => ⟨g2 c hcx, fun i hi => g2 i (hsub' i hi), _, _, .ptr (fupd pv (nx x) (pv x) x) 0, .ptr (fupd nx (pv x) (nx x) x) 0, (H.out hx g1).1, (H.out hx g1).2, ?_⟩
  have := g1 x (by simp [hx])
  rw [this]
  rfl

/-- A new one. -/
theorem use_new {h : Heap} {c m r x : Nat} {n : Int} {ids : List Nat} {en : Nat → Ent} {pv nx : Nat → Nat} (hc : h c = some (.cells [.int .i64 n, .mp m, .ptr r 0])) (H : Rg h r ids en pv nx) (hcx : c ∉ r :: x :: ids) (hx : x ∉ r :: ids)
    (hxc : h x = some (.cells (kC (en x).key ++ [vD (en x).val, .bool (en x).dirty, .int .i64 (en x).pins, .nilp, .nilp]))) :
    CallsA Try.prog 37 [.ptr c 0, .ptr x 0] h fun _ h' => (∃ pv nx, Rg h' r (ids ++ [x]) en pv nx) ∧ ∀ i, i ∉ r :: x :: ids → h' i = h i := by
  refine use_core hc hcx ?_
  refine (out_new h x (en x) hxc).mono fun _ h1 e => ?_
  subst e
  exact ⟨rfl, fun _ _ => rfl, _, _, _, _, H, hx, hxc⟩
end Go.Proofs.Ytcjndiagbdkikaa.I
