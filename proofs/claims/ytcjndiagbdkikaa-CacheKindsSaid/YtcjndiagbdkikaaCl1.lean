/- The law's opening: fixed answers. No condition. -/
import Derived.Test.YtcjndiagbdkikaaCa9
import Derived.Test.YtcjndiagbdkikaaCsB
set_option linter.unusedSimpArgs false
set_option linter.unusedVariables false
set_option maxRecDepth 20000
set_option maxHeartbeats 2000000
namespace Go.Proofs.Ytcjndiagbdkikaa

theorem aw1 : S.putL [97] 1 false 2 [] = (0, [⟨[97], 1, false, 0⟩]) := by decide +kernel
theorem aw2 : S.putL [98] 2 false 2 [⟨[97], 1, false, 0⟩] = (0, [⟨[97], 1, false, 0⟩, ⟨[98], 2, false, 0⟩]) := by decide +kernel
theorem aw3 : S.fnd [97] [⟨[97], 1, false, 0⟩, ⟨[98], 2, false, 0⟩] = some ⟨[97], 1, false, 0⟩ := by decide +kernel
theorem aw4 : S.usd [97] [⟨[97], 1, false, 0⟩, ⟨[98], 2, false, 0⟩] = [⟨[98], 2, false, 0⟩, ⟨[97], 1, false, 0⟩] := by decide +kernel
theorem aw5 : S.putL [99] 3 false 2 [⟨[98], 2, false, 0⟩, ⟨[97], 1, false, 0⟩] = (0, [⟨[97], 1, false, 0⟩, ⟨[99], 3, false, 0⟩]) := by decide +kernel
theorem aw6 : S.fnd [98] [⟨[97], 1, false, 0⟩, ⟨[99], 3, false, 0⟩] = none := by decide +kernel
theorem aw7 : S.usd [98] [⟨[97], 1, false, 0⟩, ⟨[99], 3, false, 0⟩] = [⟨[97], 1, false, 0⟩, ⟨[99], 3, false, 0⟩] := by decide +kernel

theorem awake_calls (h : Heap) : CallsA Try.prog 8 [] h fun d h' => d = .bool true ∧ ∃ F, S.Fr h h' [] F := by
  refine CallsA_body Try.func8 rfl en_8 ?_
  simp only [Try.ntmps8, List.length_cons, List.length_nil, List.replicate]
  repeat' (first
    | with_reducible refine WP_seq ?_
    | ((first | with_reducible refine WP_skip ?_ | with_reducible refine SQ_nil ?_); (first | simp only [Exit.sel, Exit.blk] | simp only [EV2, EVB, stepH, gdOf, modeOf, effD, opD, putD, ofV, ofV1, D.cells, D.lay, D.one, condP, Exit.sel, Exit.blk, RetP, oneOf, resD, putAt, nilD, extrD, fillD, buildD, mapPutD, mapDelD, mapEntD, entPutD, newMapD, moveD, boundD, makeD, appendD, liveD, reduceCtorEq, if_true, if_false, ne_eq, ty_ki_26, ty_pt_60, ty_sz_91, ty_ki_3, Try.results8]))
    | ((first | with_reducible refine WP_cond ?_ | with_reducible refine WP_ret ?_ | ((with_reducible refine SQr rfl ?_); intro rest hrest)); simp only [EV2, EVB, stepH, gdOf, modeOf, effD, opD, putD, ofV, ofV1, D.cells, D.lay, D.one, condP, Exit.sel, Exit.blk, RetP, oneOf, resD, putAt, nilD, extrD, fillD, buildD, mapPutD, mapDelD, mapEntD, entPutD, newMapD, moveD, boundD, makeD, appendD, liveD, reduceCtorEq, if_true, if_false, ne_eq, ty_ki_26, ty_pt_60, ty_sz_91, ty_ki_3, Try.results8])
    | with_reducible refine WP_block ?_
    | ((with_reducible refine WP_exit ?_); simp only [Exit.sel, Exit.blk, reduceIte, eq_self, Nat.reduceEqDiff, Nat.zero_ne_one, Nat.one_ne_zero])
    | ((with_reducible refine hrest _ ?_); clear hrest rest)
    | with_reducible refine WP_reg (fun _ => none) (fun _ => 0) (gamma0 _) ?_
    | with_reducible refine WP_draw (fun _ => none) (fun _ => 0) (gamma0 _) (by kernel_rfl) (by kernel_rfl) ?_
    | ((with_reducible refine ifP (fun _ => ?_) (fun _ => ?_)) <;> try (exfalso; omega))
    | (with_reducible refine And.intro ?_ ?_)
    | ((with_reducible refine (id ?_ : (_ : Nat) ≤ _)); omega))
  refine (S.new_calls h 2 (by decide) (by decide)).mono fun d h1 ⟨c, F1, hd, H1, f1⟩ => ?_
  subst hd
  repeat' (first
    | with_reducible refine WP_seq ?_
    | ((first | with_reducible refine WP_skip ?_ | with_reducible refine SQ_nil ?_); (first | simp only [Exit.sel, Exit.blk] | simp only [EV2, EVB, stepH, gdOf, modeOf, effD, opD, putD, ofV, ofV1, D.cells, D.lay, D.one, condP, Exit.sel, Exit.blk, RetP, oneOf, resD, putAt, nilD, extrD, fillD, buildD, mapPutD, mapDelD, mapEntD, entPutD, newMapD, moveD, boundD, makeD, appendD, liveD, reduceCtorEq, if_true, if_false, ne_eq, ty_ki_26, ty_pt_60, ty_sz_91, ty_ki_3, Try.results8]))
    | ((first | with_reducible refine WP_cond ?_ | with_reducible refine WP_ret ?_ | ((with_reducible refine SQr rfl ?_); intro rest hrest)); simp only [EV2, EVB, stepH, gdOf, modeOf, effD, opD, putD, ofV, ofV1, D.cells, D.lay, D.one, condP, Exit.sel, Exit.blk, RetP, oneOf, resD, putAt, nilD, extrD, fillD, buildD, mapPutD, mapDelD, mapEntD, entPutD, newMapD, moveD, boundD, makeD, appendD, liveD, reduceCtorEq, if_true, if_false, ne_eq, ty_ki_26, ty_pt_60, ty_sz_91, ty_ki_3, Try.results8])
    | with_reducible refine WP_block ?_
    | ((with_reducible refine WP_exit ?_); simp only [Exit.sel, Exit.blk, reduceIte, eq_self, Nat.reduceEqDiff, Nat.zero_ne_one, Nat.one_ne_zero])
    | ((with_reducible refine hrest _ ?_); clear hrest rest)
    | with_reducible refine WP_reg (fun _ => none) (fun _ => 0) (gamma0 _) ?_
    | with_reducible refine WP_draw (fun _ => none) (fun _ => 0) (gamma0 _) (by kernel_rfl) (by kernel_rfl) ?_
    | ((with_reducible refine ifP (fun _ => ?_) (fun _ => ?_)) <;> try (exfalso; omega))
    | (with_reducible refine And.intro ?_ ?_)
    | ((with_reducible refine (id ?_ : (_ : Nat) ≤ _)); omega))
  refine (S.put_calls H1 [97] 1 false).mono fun d h2 ⟨hd, F2, H2, f2⟩ => ?_
  rw [aw1] at hd H2
  simp only at hd H2
  subst hd
  repeat' (first
    | with_reducible refine WP_seq ?_
    | ((first | with_reducible refine WP_skip ?_ | with_reducible refine SQ_nil ?_); (first | simp only [Exit.sel, Exit.blk] | simp only [EV2, EVB, stepH, gdOf, modeOf, effD, opD, putD, ofV, ofV1, D.cells, D.lay, D.one, condP, Exit.sel, Exit.blk, RetP, oneOf, resD, putAt, nilD, extrD, fillD, buildD, mapPutD, mapDelD, mapEntD, entPutD, newMapD, moveD, boundD, makeD, appendD, liveD, reduceCtorEq, if_true, if_false, ne_eq, ty_ki_26, ty_pt_60, ty_sz_91, ty_ki_3, Try.results8]))
    | ((first | with_reducible refine WP_cond ?_ | with_reducible refine WP_ret ?_ | ((with_reducible refine SQr rfl ?_); intro rest hrest)); simp only [EV2, EVB, stepH, gdOf, modeOf, effD, opD, putD, ofV, ofV1, D.cells, D.lay, D.one, condP, Exit.sel, Exit.blk, RetP, oneOf, resD, putAt, nilD, extrD, fillD, buildD, mapPutD, mapDelD, mapEntD, entPutD, newMapD, moveD, boundD, makeD, appendD, liveD, reduceCtorEq, if_true, if_false, ne_eq, ty_ki_26, ty_pt_60, ty_sz_91, ty_ki_3, Try.results8])
    | with_reducible refine WP_block ?_
    | ((with_reducible refine WP_exit ?_); simp only [Exit.sel, Exit.blk, reduceIte, eq_self, Nat.reduceEqDiff, Nat.zero_ne_one, Nat.one_ne_zero])
    | ((with_reducible refine hrest _ ?_); clear hrest rest)
    | with_reducible refine WP_reg (fun _ => none) (fun _ => 0) (gamma0 _) ?_
    | with_reducible refine WP_draw (fun _ => none) (fun _ => 0) (gamma0 _) (by kernel_rfl) (by kernel_rfl) ?_
    | ((with_reducible refine ifP (fun _ => ?_) (fun _ => ?_)) <;> try (exfalso; omega))
    | (with_reducible refine And.intro ?_ ?_)
    | ((with_reducible refine (id ?_ : (_ : Nat) ≤ _)); omega))
  refine (S.put_calls H2 [98] 2 false).mono fun d h3 ⟨hd, F3, H3, f3⟩ => ?_
  rw [aw2] at hd H3
  simp only at hd H3
  subst hd
  repeat' (first
    | with_reducible refine WP_seq ?_
    | ((first | with_reducible refine WP_skip ?_ | with_reducible refine SQ_nil ?_); (first | simp only [Exit.sel, Exit.blk] | simp only [EV2, EVB, stepH, gdOf, modeOf, effD, opD, putD, ofV, ofV1, D.cells, D.lay, D.one, condP, Exit.sel, Exit.blk, RetP, oneOf, resD, putAt, nilD, extrD, fillD, buildD, mapPutD, mapDelD, mapEntD, entPutD, newMapD, moveD, boundD, makeD, appendD, liveD, reduceCtorEq, if_true, if_false, ne_eq, ty_ki_26, ty_pt_60, ty_sz_91, ty_ki_3, Try.results8]))
    | ((first | with_reducible refine WP_cond ?_ | with_reducible refine WP_ret ?_ | ((with_reducible refine SQr rfl ?_); intro rest hrest)); simp only [EV2, EVB, stepH, gdOf, modeOf, effD, opD, putD, ofV, ofV1, D.cells, D.lay, D.one, condP, Exit.sel, Exit.blk, RetP, oneOf, resD, putAt, nilD, extrD, fillD, buildD, mapPutD, mapDelD, mapEntD, entPutD, newMapD, moveD, boundD, makeD, appendD, liveD, reduceCtorEq, if_true, if_false, ne_eq, ty_ki_26, ty_pt_60, ty_sz_91, ty_ki_3, Try.results8])
    | with_reducible refine WP_block ?_
    | ((with_reducible refine WP_exit ?_); simp only [Exit.sel, Exit.blk, reduceIte, eq_self, Nat.reduceEqDiff, Nat.zero_ne_one, Nat.one_ne_zero])
    | ((with_reducible refine hrest _ ?_); clear hrest rest)
    | with_reducible refine WP_reg (fun _ => none) (fun _ => 0) (gamma0 _) ?_
    | with_reducible refine WP_draw (fun _ => none) (fun _ => 0) (gamma0 _) (by kernel_rfl) (by kernel_rfl) ?_
    | ((with_reducible refine ifP (fun _ => ?_) (fun _ => ?_)) <;> try (exfalso; omega))
    | (with_reducible refine And.intro ?_ ?_)
    | ((with_reducible refine (id ?_ : (_ : Nat) ≤ _)); omega))
  refine (S.get_calls H3 [97]).mono fun d h4 ⟨hd, F4, H4, f4⟩ => ?_
  simp only [aw3, aw4, Option.map_some, Option.getD_some, Option.isSome_some, S.vD] at H4 hd
  subst hd
  repeat' (first
    | with_reducible refine WP_seq ?_
    | ((first | with_reducible refine WP_skip ?_ | with_reducible refine SQ_nil ?_); (first | simp only [Exit.sel, Exit.blk] | simp only [EV2, EVB, stepH, gdOf, modeOf, effD, opD, putD, ofV, ofV1, D.cells, D.lay, D.one, condP, Exit.sel, Exit.blk, RetP, oneOf, resD, putAt, nilD, extrD, fillD, buildD, mapPutD, mapDelD, mapEntD, entPutD, newMapD, moveD, boundD, makeD, appendD, liveD, reduceCtorEq, if_true, if_false, ne_eq, ty_ki_26, ty_pt_60, ty_sz_91, ty_ki_3, Try.results8]))
    | ((first | with_reducible refine WP_cond ?_ | with_reducible refine WP_ret ?_ | ((with_reducible refine SQr rfl ?_); intro rest hrest)); simp only [EV2, EVB, stepH, gdOf, modeOf, effD, opD, putD, ofV, ofV1, D.cells, D.lay, D.one, condP, Exit.sel, Exit.blk, RetP, oneOf, resD, putAt, nilD, extrD, fillD, buildD, mapPutD, mapDelD, mapEntD, entPutD, newMapD, moveD, boundD, makeD, appendD, liveD, reduceCtorEq, if_true, if_false, ne_eq, ty_ki_26, ty_pt_60, ty_sz_91, ty_ki_3, Try.results8])
    | with_reducible refine WP_block ?_
    | ((with_reducible refine WP_exit ?_); simp only [Exit.sel, Exit.blk, reduceIte, eq_self, Nat.reduceEqDiff, Nat.zero_ne_one, Nat.one_ne_zero])
    | ((with_reducible refine hrest _ ?_); clear hrest rest)
    | with_reducible refine WP_reg (fun _ => none) (fun _ => 0) (gamma0 _) ?_
    | with_reducible refine WP_draw (fun _ => none) (fun _ => 0) (gamma0 _) (by kernel_rfl) (by kernel_rfl) ?_
    | ((with_reducible refine ifP (fun _ => ?_) (fun _ => ?_)) <;> try (exfalso; omega))
    | (with_reducible refine And.intro ?_ ?_)
    | ((with_reducible refine (id ?_ : (_ : Nat) ≤ _)); omega))
  refine (S.put_calls H4 [99] 3 false).mono fun d h5 ⟨hd, F5, H5, f5⟩ => ?_
  rw [aw5] at hd H5
  simp only at hd H5
  subst hd
  repeat' (first
    | with_reducible refine WP_seq ?_
    | ((first | with_reducible refine WP_skip ?_ | with_reducible refine SQ_nil ?_); (first | simp only [Exit.sel, Exit.blk] | simp only [EV2, EVB, stepH, gdOf, modeOf, effD, opD, putD, ofV, ofV1, D.cells, D.lay, D.one, condP, Exit.sel, Exit.blk, RetP, oneOf, resD, putAt, nilD, extrD, fillD, buildD, mapPutD, mapDelD, mapEntD, entPutD, newMapD, moveD, boundD, makeD, appendD, liveD, reduceCtorEq, if_true, if_false, ne_eq, ty_ki_26, ty_pt_60, ty_sz_91, ty_ki_3, Try.results8]))
    | ((first | with_reducible refine WP_cond ?_ | with_reducible refine WP_ret ?_ | ((with_reducible refine SQr rfl ?_); intro rest hrest)); simp only [EV2, EVB, stepH, gdOf, modeOf, effD, opD, putD, ofV, ofV1, D.cells, D.lay, D.one, condP, Exit.sel, Exit.blk, RetP, oneOf, resD, putAt, nilD, extrD, fillD, buildD, mapPutD, mapDelD, mapEntD, entPutD, newMapD, moveD, boundD, makeD, appendD, liveD, reduceCtorEq, if_true, if_false, ne_eq, ty_ki_26, ty_pt_60, ty_sz_91, ty_ki_3, Try.results8])
    | with_reducible refine WP_block ?_
    | ((with_reducible refine WP_exit ?_); simp only [Exit.sel, Exit.blk, reduceIte, eq_self, Nat.reduceEqDiff, Nat.zero_ne_one, Nat.one_ne_zero])
    | ((with_reducible refine hrest _ ?_); clear hrest rest)
    | with_reducible refine WP_reg (fun _ => none) (fun _ => 0) (gamma0 _) ?_
    | with_reducible refine WP_draw (fun _ => none) (fun _ => 0) (gamma0 _) (by kernel_rfl) (by kernel_rfl) ?_
    | ((with_reducible refine ifP (fun _ => ?_) (fun _ => ?_)) <;> try (exfalso; omega))
    | (with_reducible refine And.intro ?_ ?_)
    | ((with_reducible refine (id ?_ : (_ : Nat) ≤ _)); omega))
  refine (S.get_calls H5 [98]).mono fun d h6 ⟨hd, F6, H6, f6⟩ => ?_
  simp only [aw6, aw7, Option.map_none, Option.getD_none, Option.isSome_none, S.vD, S.vz] at H6 hd
  subst hd
  repeat' (first
    | with_reducible refine WP_seq ?_
    | ((first | with_reducible refine WP_skip ?_ | with_reducible refine SQ_nil ?_); (first | simp only [Exit.sel, Exit.blk] | simp only [EV2, EVB, stepH, gdOf, modeOf, effD, opD, putD, ofV, ofV1, D.cells, D.lay, D.one, condP, Exit.sel, Exit.blk, RetP, oneOf, resD, putAt, nilD, extrD, fillD, buildD, mapPutD, mapDelD, mapEntD, entPutD, newMapD, moveD, boundD, makeD, appendD, liveD, reduceCtorEq, if_true, if_false, ne_eq, ty_ki_26, ty_pt_60, ty_sz_91, ty_ki_3, Try.results8]))
    | ((first | with_reducible refine WP_cond ?_ | with_reducible refine WP_ret ?_ | ((with_reducible refine SQr rfl ?_); intro rest hrest)); simp only [EV2, EVB, stepH, gdOf, modeOf, effD, opD, putD, ofV, ofV1, D.cells, D.lay, D.one, condP, Exit.sel, Exit.blk, RetP, oneOf, resD, putAt, nilD, extrD, fillD, buildD, mapPutD, mapDelD, mapEntD, entPutD, newMapD, moveD, boundD, makeD, appendD, liveD, reduceCtorEq, if_true, if_false, ne_eq, ty_ki_26, ty_pt_60, ty_sz_91, ty_ki_3, Try.results8])
    | with_reducible refine WP_block ?_
    | ((with_reducible refine WP_exit ?_); simp only [Exit.sel, Exit.blk, reduceIte, eq_self, Nat.reduceEqDiff, Nat.zero_ne_one, Nat.one_ne_zero])
    | ((with_reducible refine hrest _ ?_); clear hrest rest)
    | with_reducible refine WP_reg (fun _ => none) (fun _ => 0) (gamma0 _) ?_
    | with_reducible refine WP_draw (fun _ => none) (fun _ => 0) (gamma0 _) (by kernel_rfl) (by kernel_rfl) ?_
    | ((with_reducible refine ifP (fun _ => ?_) (fun _ => ?_)) <;> try (exfalso; omega))
    | (with_reducible refine And.intro ?_ ?_)
    | ((with_reducible refine (id ?_ : (_ : Nat) ≤ _)); omega))
  refine (S.len_calls H6).mono fun d h7 ⟨hd, hh⟩ => ?_
  subst hd hh
  repeat' (first
    | with_reducible refine WP_seq ?_
    | ((first | with_reducible refine WP_skip ?_ | with_reducible refine SQ_nil ?_); (first | simp only [Exit.sel, Exit.blk] | simp only [EV2, EVB, stepH, gdOf, modeOf, effD, opD, putD, ofV, ofV1, D.cells, D.lay, D.one, condP, Exit.sel, Exit.blk, RetP, oneOf, resD, putAt, nilD, extrD, fillD, buildD, mapPutD, mapDelD, mapEntD, entPutD, newMapD, moveD, boundD, makeD, appendD, liveD, reduceCtorEq, if_true, if_false, ne_eq, ty_ki_26, ty_pt_60, ty_sz_91, ty_ki_3, Try.results8]))
    | ((first | with_reducible refine WP_cond ?_ | with_reducible refine WP_ret ?_ | ((with_reducible refine SQr rfl ?_); intro rest hrest)); simp only [EV2, EVB, stepH, gdOf, modeOf, effD, opD, putD, ofV, ofV1, D.cells, D.lay, D.one, condP, Exit.sel, Exit.blk, RetP, oneOf, resD, putAt, nilD, extrD, fillD, buildD, mapPutD, mapDelD, mapEntD, entPutD, newMapD, moveD, boundD, makeD, appendD, liveD, reduceCtorEq, if_true, if_false, ne_eq, ty_ki_26, ty_pt_60, ty_sz_91, ty_ki_3, Try.results8])
    | with_reducible refine WP_block ?_
    | ((with_reducible refine WP_exit ?_); simp only [Exit.sel, Exit.blk, reduceIte, eq_self, Nat.reduceEqDiff, Nat.zero_ne_one, Nat.one_ne_zero])
    | ((with_reducible refine hrest _ ?_); clear hrest rest)
    | with_reducible refine WP_reg (fun _ => none) (fun _ => 0) (gamma0 _) ?_
    | with_reducible refine WP_draw (fun _ => none) (fun _ => 0) (gamma0 _) (by kernel_rfl) (by kernel_rfl) ?_
    | ((with_reducible refine ifP (fun _ => ?_) (fun _ => ?_)) <;> try (exfalso; omega))
    | (with_reducible refine And.intro ?_ ?_)
    | ((with_reducible refine (id ?_ : (_ : Nat) ≤ _)); omega))
  · rfl
  · exact ⟨_, (((((f1.trans f2).trans f3).trans f4).trans f5).trans f6)⟩

/-- The last sums: a nil cache. -/
theorem nil_calls (h : Heap) (k v : Int) (dirty : Bool) : CallsA Try.prog 7 [.int .i64 k, .int .i64 v, .bool dirty] h fun d _ => d = .bool true := by
  refine CallsA_body Try.func7 rfl en_7 ?_
  simp only [Try.ntmps7, List.length_cons, List.length_nil, List.replicate]
  repeat' (first
    | with_reducible refine WP_seq ?_
    | ((first | with_reducible refine WP_skip ?_ | with_reducible refine SQ_nil ?_); (first | simp only [Exit.sel, Exit.blk] | simp only [EV2, EVB, stepH, gdOf, modeOf, effD, opD, putD, ofV, ofV1, D.cells, D.lay, D.one, condP, Exit.sel, Exit.blk, RetP, oneOf, resD, putAt, nilD, extrD, fillD, buildD, mapPutD, mapDelD, mapEntD, entPutD, newMapD, moveD, boundD, makeD, appendD, liveD, reduceCtorEq, if_true, if_false, ne_eq, ty_ki_3, ty_ki_26, ty_sl_22, Try.results7]))
    | ((first | with_reducible refine WP_cond ?_ | with_reducible refine WP_ret ?_ | ((with_reducible refine SQr rfl ?_); intro rest hrest)); simp only [EV2, EVB, stepH, gdOf, modeOf, effD, opD, putD, ofV, ofV1, D.cells, D.lay, D.one, condP, Exit.sel, Exit.blk, RetP, oneOf, resD, putAt, nilD, extrD, fillD, buildD, mapPutD, mapDelD, mapEntD, entPutD, newMapD, moveD, boundD, makeD, appendD, liveD, reduceCtorEq, if_true, if_false, ne_eq, ty_ki_3, ty_ki_26, ty_sl_22, Try.results7])
    | with_reducible refine WP_block ?_
    | ((with_reducible refine WP_exit ?_); simp only [Exit.sel, Exit.blk, reduceIte, eq_self, Nat.reduceEqDiff, Nat.zero_ne_one, Nat.one_ne_zero])
    | ((with_reducible refine hrest _ ?_); clear hrest rest)
    | with_reducible refine WP_reg (fun _ => none) (fun _ => 0) (gamma0 _) ?_
    | with_reducible refine WP_draw (fun _ => none) (fun _ => 0) (gamma0 _) (by kernel_rfl) (by kernel_rfl) ?_
    | ((with_reducible refine ifP (fun _ => ?_) (fun _ => ?_)) <;> try (exfalso; omega))
    | (with_reducible refine And.intro ?_ ?_)
    | ((with_reducible refine (id ?_ : (_ : Nat) ≤ _)); omega))
  refine (awake_calls h).mono fun d h1 ⟨hd, _⟩ => ?_
  subst hd
  repeat' (first
    | with_reducible refine WP_seq ?_
    | ((first | with_reducible refine WP_skip ?_ | with_reducible refine SQ_nil ?_); (first | simp only [Exit.sel, Exit.blk] | simp only [EV2, EVB, stepH, gdOf, modeOf, effD, opD, putD, ofV, ofV1, D.cells, D.lay, D.one, condP, Exit.sel, Exit.blk, RetP, oneOf, resD, putAt, nilD, extrD, fillD, buildD, mapPutD, mapDelD, mapEntD, entPutD, newMapD, moveD, boundD, makeD, appendD, liveD, reduceCtorEq, if_true, if_false, ne_eq, ty_ki_3, ty_ki_26, ty_sl_22, Try.results7]))
    | ((first | with_reducible refine WP_cond ?_ | with_reducible refine WP_ret ?_ | ((with_reducible refine SQr rfl ?_); intro rest hrest)); simp only [EV2, EVB, stepH, gdOf, modeOf, effD, opD, putD, ofV, ofV1, D.cells, D.lay, D.one, condP, Exit.sel, Exit.blk, RetP, oneOf, resD, putAt, nilD, extrD, fillD, buildD, mapPutD, mapDelD, mapEntD, entPutD, newMapD, moveD, boundD, makeD, appendD, liveD, reduceCtorEq, if_true, if_false, ne_eq, ty_ki_3, ty_ki_26, ty_sl_22, Try.results7])
    | with_reducible refine WP_block ?_
    | ((with_reducible refine WP_exit ?_); simp only [Exit.sel, Exit.blk, reduceIte, eq_self, Nat.reduceEqDiff, Nat.zero_ne_one, Nat.one_ne_zero])
    | ((with_reducible refine hrest _ ?_); clear hrest rest)
    | with_reducible refine WP_reg (fun _ => none) (fun _ => 0) (gamma0 _) ?_
    | with_reducible refine WP_draw (fun _ => none) (fun _ => 0) (gamma0 _) (by kernel_rfl) (by kernel_rfl) ?_
    | ((with_reducible refine ifP (fun _ => ?_) (fun _ => ?_)) <;> try (exfalso; omega))
    | (with_reducible refine And.intro ?_ ?_)
    | ((with_reducible refine (id ?_ : (_ : Nat) ≤ _)); omega))
  refine (I.get_nil h1 k).mono fun d h2 ⟨hd, hh⟩ => ?_
  simp only [I.vD, I.vz] at hd
  subst hd hh
  repeat' (first
    | with_reducible refine WP_seq ?_
    | ((first | with_reducible refine WP_skip ?_ | with_reducible refine SQ_nil ?_); (first | simp only [Exit.sel, Exit.blk] | simp only [EV2, EVB, stepH, gdOf, modeOf, effD, opD, putD, ofV, ofV1, D.cells, D.lay, D.one, condP, Exit.sel, Exit.blk, RetP, oneOf, resD, putAt, nilD, extrD, fillD, buildD, mapPutD, mapDelD, mapEntD, entPutD, newMapD, moveD, boundD, makeD, appendD, liveD, reduceCtorEq, if_true, if_false, ne_eq, ty_ki_3, ty_ki_26, ty_sl_22, Try.results7]))
    | ((first | with_reducible refine WP_cond ?_ | with_reducible refine WP_ret ?_ | ((with_reducible refine SQr rfl ?_); intro rest hrest)); simp only [EV2, EVB, stepH, gdOf, modeOf, effD, opD, putD, ofV, ofV1, D.cells, D.lay, D.one, condP, Exit.sel, Exit.blk, RetP, oneOf, resD, putAt, nilD, extrD, fillD, buildD, mapPutD, mapDelD, mapEntD, entPutD, newMapD, moveD, boundD, makeD, appendD, liveD, reduceCtorEq, if_true, if_false, ne_eq, ty_ki_3, ty_ki_26, ty_sl_22, Try.results7])
    | with_reducible refine WP_block ?_
    | ((with_reducible refine WP_exit ?_); simp only [Exit.sel, Exit.blk, reduceIte, eq_self, Nat.reduceEqDiff, Nat.zero_ne_one, Nat.one_ne_zero])
    | ((with_reducible refine hrest _ ?_); clear hrest rest)
    | with_reducible refine WP_reg (fun _ => none) (fun _ => 0) (gamma0 _) ?_
    | with_reducible refine WP_draw (fun _ => none) (fun _ => 0) (gamma0 _) (by kernel_rfl) (by kernel_rfl) ?_
    | ((with_reducible refine ifP (fun _ => ?_) (fun _ => ?_)) <;> try (exfalso; omega))
    | (with_reducible refine And.intro ?_ ?_)
    | ((with_reducible refine (id ?_ : (_ : Nat) ≤ _)); omega))
  refine (I.put_nil h2 k v dirty).mono fun d h3 ⟨hd, hh⟩ => ?_
  subst hd hh
  repeat' (first
    | with_reducible refine WP_seq ?_
    | ((first | with_reducible refine WP_skip ?_ | with_reducible refine SQ_nil ?_); (first | simp only [Exit.sel, Exit.blk] | simp only [EV2, EVB, stepH, gdOf, modeOf, effD, opD, putD, ofV, ofV1, D.cells, D.lay, D.one, condP, Exit.sel, Exit.blk, RetP, oneOf, resD, putAt, nilD, extrD, fillD, buildD, mapPutD, mapDelD, mapEntD, entPutD, newMapD, moveD, boundD, makeD, appendD, liveD, reduceCtorEq, if_true, if_false, ne_eq, ty_ki_3, ty_ki_26, ty_sl_22, Try.results7]))
    | ((first | with_reducible refine WP_cond ?_ | with_reducible refine WP_ret ?_ | ((with_reducible refine SQr rfl ?_); intro rest hrest)); simp only [EV2, EVB, stepH, gdOf, modeOf, effD, opD, putD, ofV, ofV1, D.cells, D.lay, D.one, condP, Exit.sel, Exit.blk, RetP, oneOf, resD, putAt, nilD, extrD, fillD, buildD, mapPutD, mapDelD, mapEntD, entPutD, newMapD, moveD, boundD, makeD, appendD, liveD, reduceCtorEq, if_true, if_false, ne_eq, ty_ki_3, ty_ki_26, ty_sl_22, Try.results7])
    | with_reducible refine WP_block ?_
    | ((with_reducible refine WP_exit ?_); simp only [Exit.sel, Exit.blk, reduceIte, eq_self, Nat.reduceEqDiff, Nat.zero_ne_one, Nat.one_ne_zero])
    | ((with_reducible refine hrest _ ?_); clear hrest rest)
    | with_reducible refine WP_reg (fun _ => none) (fun _ => 0) (gamma0 _) ?_
    | with_reducible refine WP_draw (fun _ => none) (fun _ => 0) (gamma0 _) (by kernel_rfl) (by kernel_rfl) ?_
    | ((with_reducible refine ifP (fun _ => ?_) (fun _ => ?_)) <;> try (exfalso; omega))
    | (with_reducible refine And.intro ?_ ?_)
    | ((with_reducible refine (id ?_ : (_ : Nat) ≤ _)); omega))
  refine (I.drop_nil h3 k).mono fun d h4 ⟨hd, hh⟩ => ?_
  subst hd hh
  repeat' (first
    | with_reducible refine WP_seq ?_
    | ((first | with_reducible refine WP_skip ?_ | with_reducible refine SQ_nil ?_); (first | simp only [Exit.sel, Exit.blk] | simp only [EV2, EVB, stepH, gdOf, modeOf, effD, opD, putD, ofV, ofV1, D.cells, D.lay, D.one, condP, Exit.sel, Exit.blk, RetP, oneOf, resD, putAt, nilD, extrD, fillD, buildD, mapPutD, mapDelD, mapEntD, entPutD, newMapD, moveD, boundD, makeD, appendD, liveD, reduceCtorEq, if_true, if_false, ne_eq, ty_ki_3, ty_ki_26, ty_sl_22, Try.results7]))
    | ((first | with_reducible refine WP_cond ?_ | with_reducible refine WP_ret ?_ | ((with_reducible refine SQr rfl ?_); intro rest hrest)); simp only [EV2, EVB, stepH, gdOf, modeOf, effD, opD, putD, ofV, ofV1, D.cells, D.lay, D.one, condP, Exit.sel, Exit.blk, RetP, oneOf, resD, putAt, nilD, extrD, fillD, buildD, mapPutD, mapDelD, mapEntD, entPutD, newMapD, moveD, boundD, makeD, appendD, liveD, reduceCtorEq, if_true, if_false, ne_eq, ty_ki_3, ty_ki_26, ty_sl_22, Try.results7])
    | with_reducible refine WP_block ?_
    | ((with_reducible refine WP_exit ?_); simp only [Exit.sel, Exit.blk, reduceIte, eq_self, Nat.reduceEqDiff, Nat.zero_ne_one, Nat.one_ne_zero])
    | ((with_reducible refine hrest _ ?_); clear hrest rest)
    | with_reducible refine WP_reg (fun _ => none) (fun _ => 0) (gamma0 _) ?_
    | with_reducible refine WP_draw (fun _ => none) (fun _ => 0) (gamma0 _) (by kernel_rfl) (by kernel_rfl) ?_
    | ((with_reducible refine ifP (fun _ => ?_) (fun _ => ?_)) <;> try (exfalso; omega))
    | (with_reducible refine And.intro ?_ ?_)
    | ((with_reducible refine (id ?_ : (_ : Nat) ≤ _)); omega))
  refine (I.pin_nil h4 k).mono fun d h5 ⟨hd, hh⟩ => ?_
  subst hd hh
  repeat' (first
    | with_reducible refine WP_seq ?_
    | ((first | with_reducible refine WP_skip ?_ | with_reducible refine SQ_nil ?_); (first | simp only [Exit.sel, Exit.blk] | simp only [EV2, EVB, stepH, gdOf, modeOf, effD, opD, putD, ofV, ofV1, D.cells, D.lay, D.one, condP, Exit.sel, Exit.blk, RetP, oneOf, resD, putAt, nilD, extrD, fillD, buildD, mapPutD, mapDelD, mapEntD, entPutD, newMapD, moveD, boundD, makeD, appendD, liveD, reduceCtorEq, if_true, if_false, ne_eq, ty_ki_3, ty_ki_26, ty_sl_22, Try.results7]))
    | ((first | with_reducible refine WP_cond ?_ | with_reducible refine WP_ret ?_ | ((with_reducible refine SQr rfl ?_); intro rest hrest)); simp only [EV2, EVB, stepH, gdOf, modeOf, effD, opD, putD, ofV, ofV1, D.cells, D.lay, D.one, condP, Exit.sel, Exit.blk, RetP, oneOf, resD, putAt, nilD, extrD, fillD, buildD, mapPutD, mapDelD, mapEntD, entPutD, newMapD, moveD, boundD, makeD, appendD, liveD, reduceCtorEq, if_true, if_false, ne_eq, ty_ki_3, ty_ki_26, ty_sl_22, Try.results7])
    | with_reducible refine WP_block ?_
    | ((with_reducible refine WP_exit ?_); simp only [Exit.sel, Exit.blk, reduceIte, eq_self, Nat.reduceEqDiff, Nat.zero_ne_one, Nat.one_ne_zero])
    | ((with_reducible refine hrest _ ?_); clear hrest rest)
    | with_reducible refine WP_reg (fun _ => none) (fun _ => 0) (gamma0 _) ?_
    | with_reducible refine WP_draw (fun _ => none) (fun _ => 0) (gamma0 _) (by kernel_rfl) (by kernel_rfl) ?_
    | ((with_reducible refine ifP (fun _ => ?_) (fun _ => ?_)) <;> try (exfalso; omega))
    | (with_reducible refine And.intro ?_ ?_)
    | ((with_reducible refine (id ?_ : (_ : Nat) ≤ _)); omega))
  refine (I.unpin_nil h5 k).mono fun d h6 ⟨hd, hh⟩ => ?_
  subst hd hh
  repeat' (first
    | with_reducible refine WP_seq ?_
    | ((first | with_reducible refine WP_skip ?_ | with_reducible refine SQ_nil ?_); (first | simp only [Exit.sel, Exit.blk] | simp only [EV2, EVB, stepH, gdOf, modeOf, effD, opD, putD, ofV, ofV1, D.cells, D.lay, D.one, condP, Exit.sel, Exit.blk, RetP, oneOf, resD, putAt, nilD, extrD, fillD, buildD, mapPutD, mapDelD, mapEntD, entPutD, newMapD, moveD, boundD, makeD, appendD, liveD, reduceCtorEq, if_true, if_false, ne_eq, ty_ki_3, ty_ki_26, ty_sl_22, Try.results7]))
    | ((first | with_reducible refine WP_cond ?_ | with_reducible refine WP_ret ?_ | ((with_reducible refine SQr rfl ?_); intro rest hrest)); simp only [EV2, EVB, stepH, gdOf, modeOf, effD, opD, putD, ofV, ofV1, D.cells, D.lay, D.one, condP, Exit.sel, Exit.blk, RetP, oneOf, resD, putAt, nilD, extrD, fillD, buildD, mapPutD, mapDelD, mapEntD, entPutD, newMapD, moveD, boundD, makeD, appendD, liveD, reduceCtorEq, if_true, if_false, ne_eq, ty_ki_3, ty_ki_26, ty_sl_22, Try.results7])
    | with_reducible refine WP_block ?_
    | ((with_reducible refine WP_exit ?_); simp only [Exit.sel, Exit.blk, reduceIte, eq_self, Nat.reduceEqDiff, Nat.zero_ne_one, Nat.one_ne_zero])
    | ((with_reducible refine hrest _ ?_); clear hrest rest)
    | with_reducible refine WP_reg (fun _ => none) (fun _ => 0) (gamma0 _) ?_
    | with_reducible refine WP_draw (fun _ => none) (fun _ => 0) (gamma0 _) (by kernel_rfl) (by kernel_rfl) ?_
    | ((with_reducible refine ifP (fun _ => ?_) (fun _ => ?_)) <;> try (exfalso; omega))
    | (with_reducible refine And.intro ?_ ?_)
    | ((with_reducible refine (id ?_ : (_ : Nat) ≤ _)); omega))
  refine (I.clean_nil h6 k).mono fun d h7 ⟨hd, hh⟩ => ?_
  subst hd hh
  repeat' (first
    | with_reducible refine WP_seq ?_
    | ((first | with_reducible refine WP_skip ?_ | with_reducible refine SQ_nil ?_); (first | simp only [Exit.sel, Exit.blk] | simp only [EV2, EVB, stepH, gdOf, modeOf, effD, opD, putD, ofV, ofV1, D.cells, D.lay, D.one, condP, Exit.sel, Exit.blk, RetP, oneOf, resD, putAt, nilD, extrD, fillD, buildD, mapPutD, mapDelD, mapEntD, entPutD, newMapD, moveD, boundD, makeD, appendD, liveD, reduceCtorEq, if_true, if_false, ne_eq, ty_ki_3, ty_ki_26, ty_sl_22, Try.results7]))
    | ((first | with_reducible refine WP_cond ?_ | with_reducible refine WP_ret ?_ | ((with_reducible refine SQr rfl ?_); intro rest hrest)); simp only [EV2, EVB, stepH, gdOf, modeOf, effD, opD, putD, ofV, ofV1, D.cells, D.lay, D.one, condP, Exit.sel, Exit.blk, RetP, oneOf, resD, putAt, nilD, extrD, fillD, buildD, mapPutD, mapDelD, mapEntD, entPutD, newMapD, moveD, boundD, makeD, appendD, liveD, reduceCtorEq, if_true, if_false, ne_eq, ty_ki_3, ty_ki_26, ty_sl_22, Try.results7])
    | with_reducible refine WP_block ?_
    | ((with_reducible refine WP_exit ?_); simp only [Exit.sel, Exit.blk, reduceIte, eq_self, Nat.reduceEqDiff, Nat.zero_ne_one, Nat.one_ne_zero])
    | ((with_reducible refine hrest _ ?_); clear hrest rest)
    | with_reducible refine WP_reg (fun _ => none) (fun _ => 0) (gamma0 _) ?_
    | with_reducible refine WP_draw (fun _ => none) (fun _ => 0) (gamma0 _) (by kernel_rfl) (by kernel_rfl) ?_
    | ((with_reducible refine ifP (fun _ => ?_) (fun _ => ?_)) <;> try (exfalso; omega))
    | (with_reducible refine And.intro ?_ ?_)
    | ((with_reducible refine (id ?_ : (_ : Nat) ≤ _)); omega))
  refine (I.keysA_nil h7).mono fun d h8 ⟨hd, hh⟩ => ?_
  subst hd hh
  repeat' (first
    | with_reducible refine WP_seq ?_
    | ((first | with_reducible refine WP_skip ?_ | with_reducible refine SQ_nil ?_); (first | simp only [Exit.sel, Exit.blk] | simp only [EV2, EVB, stepH, gdOf, modeOf, effD, opD, putD, ofV, ofV1, D.cells, D.lay, D.one, condP, Exit.sel, Exit.blk, RetP, oneOf, resD, putAt, nilD, extrD, fillD, buildD, mapPutD, mapDelD, mapEntD, entPutD, newMapD, moveD, boundD, makeD, appendD, liveD, reduceCtorEq, if_true, if_false, ne_eq, ty_ki_3, ty_ki_26, ty_sl_22, Try.results7]))
    | ((first | with_reducible refine WP_cond ?_ | with_reducible refine WP_ret ?_ | ((with_reducible refine SQr rfl ?_); intro rest hrest)); simp only [EV2, EVB, stepH, gdOf, modeOf, effD, opD, putD, ofV, ofV1, D.cells, D.lay, D.one, condP, Exit.sel, Exit.blk, RetP, oneOf, resD, putAt, nilD, extrD, fillD, buildD, mapPutD, mapDelD, mapEntD, entPutD, newMapD, moveD, boundD, makeD, appendD, liveD, reduceCtorEq, if_true, if_false, ne_eq, ty_ki_3, ty_ki_26, ty_sl_22, Try.results7])
    | with_reducible refine WP_block ?_
    | ((with_reducible refine WP_exit ?_); simp only [Exit.sel, Exit.blk, reduceIte, eq_self, Nat.reduceEqDiff, Nat.zero_ne_one, Nat.one_ne_zero])
    | ((with_reducible refine hrest _ ?_); clear hrest rest)
    | with_reducible refine WP_reg (fun _ => none) (fun _ => 0) (gamma0 _) ?_
    | with_reducible refine WP_draw (fun _ => none) (fun _ => 0) (gamma0 _) (by kernel_rfl) (by kernel_rfl) ?_
    | ((with_reducible refine ifP (fun _ => ?_) (fun _ => ?_)) <;> try (exfalso; omega))
    | (with_reducible refine And.intro ?_ ?_)
    | ((with_reducible refine (id ?_ : (_ : Nat) ≤ _)); omega))
  refine (I.keysD_nil h8).mono fun d h9 ⟨hd, hh⟩ => ?_
  subst hd hh
  repeat' (first
    | with_reducible refine WP_seq ?_
    | ((first | with_reducible refine WP_skip ?_ | with_reducible refine SQ_nil ?_); (first | simp only [Exit.sel, Exit.blk] | simp only [EV2, EVB, stepH, gdOf, modeOf, effD, opD, putD, ofV, ofV1, D.cells, D.lay, D.one, condP, Exit.sel, Exit.blk, RetP, oneOf, resD, putAt, nilD, extrD, fillD, buildD, mapPutD, mapDelD, mapEntD, entPutD, newMapD, moveD, boundD, makeD, appendD, liveD, reduceCtorEq, if_true, if_false, ne_eq, ty_ki_3, ty_ki_26, ty_sl_22, Try.results7]))
    | ((first | with_reducible refine WP_cond ?_ | with_reducible refine WP_ret ?_ | ((with_reducible refine SQr rfl ?_); intro rest hrest)); simp only [EV2, EVB, stepH, gdOf, modeOf, effD, opD, putD, ofV, ofV1, D.cells, D.lay, D.one, condP, Exit.sel, Exit.blk, RetP, oneOf, resD, putAt, nilD, extrD, fillD, buildD, mapPutD, mapDelD, mapEntD, entPutD, newMapD, moveD, boundD, makeD, appendD, liveD, reduceCtorEq, if_true, if_false, ne_eq, ty_ki_3, ty_ki_26, ty_sl_22, Try.results7])
    | with_reducible refine WP_block ?_
    | ((with_reducible refine WP_exit ?_); simp only [Exit.sel, Exit.blk, reduceIte, eq_self, Nat.reduceEqDiff, Nat.zero_ne_one, Nat.one_ne_zero])
    | ((with_reducible refine hrest _ ?_); clear hrest rest)
    | with_reducible refine WP_reg (fun _ => none) (fun _ => 0) (gamma0 _) ?_
    | with_reducible refine WP_draw (fun _ => none) (fun _ => 0) (gamma0 _) (by kernel_rfl) (by kernel_rfl) ?_
    | ((with_reducible refine ifP (fun _ => ?_) (fun _ => ?_)) <;> try (exfalso; omega))
    | (with_reducible refine And.intro ?_ ?_)
    | ((with_reducible refine (id ?_ : (_ : Nat) ≤ _)); omega))
  refine (I.len_nil h9).mono fun d h10 ⟨hd, hh⟩ => ?_
  subst hd hh
  repeat' (first
    | with_reducible refine WP_seq ?_
    | ((first | with_reducible refine WP_skip ?_ | with_reducible refine SQ_nil ?_); (first | simp only [Exit.sel, Exit.blk] | simp only [EV2, EVB, stepH, gdOf, modeOf, effD, opD, putD, ofV, ofV1, D.cells, D.lay, D.one, condP, Exit.sel, Exit.blk, RetP, oneOf, resD, putAt, nilD, extrD, fillD, buildD, mapPutD, mapDelD, mapEntD, entPutD, newMapD, moveD, boundD, makeD, appendD, liveD, reduceCtorEq, if_true, if_false, ne_eq, ty_ki_3, ty_ki_26, ty_sl_22, Try.results7]))
    | ((first | with_reducible refine WP_cond ?_ | with_reducible refine WP_ret ?_ | ((with_reducible refine SQr rfl ?_); intro rest hrest)); simp only [EV2, EVB, stepH, gdOf, modeOf, effD, opD, putD, ofV, ofV1, D.cells, D.lay, D.one, condP, Exit.sel, Exit.blk, RetP, oneOf, resD, putAt, nilD, extrD, fillD, buildD, mapPutD, mapDelD, mapEntD, entPutD, newMapD, moveD, boundD, makeD, appendD, liveD, reduceCtorEq, if_true, if_false, ne_eq, ty_ki_3, ty_ki_26, ty_sl_22, Try.results7])
    | with_reducible refine WP_block ?_
    | ((with_reducible refine WP_exit ?_); simp only [Exit.sel, Exit.blk, reduceIte, eq_self, Nat.reduceEqDiff, Nat.zero_ne_one, Nat.one_ne_zero])
    | ((with_reducible refine hrest _ ?_); clear hrest rest)
    | with_reducible refine WP_reg (fun _ => none) (fun _ => 0) (gamma0 _) ?_
    | with_reducible refine WP_draw (fun _ => none) (fun _ => 0) (gamma0 _) (by kernel_rfl) (by kernel_rfl) ?_
    | ((with_reducible refine ifP (fun _ => ?_) (fun _ => ?_)) <;> try (exfalso; omega))
    | (with_reducible refine And.intro ?_ ?_)
    | ((with_reducible refine (id ?_ : (_ : Nat) ≤ _)); omega))
end Go.Proofs.Ytcjndiagbdkikaa
