/- The cache of pairs of flags, first half. No condition. -/
import Derived.Test.YtcjndiagbdkikaaTy
import Derived.Test.YtcjndiagbdkikaaCaG
set_option linter.unusedSimpArgs false
set_option linter.unusedVariables false
namespace Go.Proofs.Ytcjndiagbdkikaa.B

abbrev Key := Bool × Bool
abbrev Val := Option Int
def kD (k : Key) : D := .agg [.bool k.1, .bool k.2]
def kC (k : Key) : List D := [.bool k.1, .bool k.2]
def vD : Val → D
  | none => .snil
  | some v => .sl 1 [[.int .i64 v]] 0
def kz : Key := (false, false)
def vz : Val := none
theorem ev_key_f {P : Program} {t : TypeId} (a b : Bool) : isKeyD P t (.agg [.bool a, .bool b]) = flags2 P t := rfl
theorem vD_cells (v : Val) : (vD v).cells = [vD v] := by cases v <;> rfl
theorem vD_lay (v : Val) : (vD v).lay = true := by cases v <;> rfl
theorem cel_agg (cs : List D) : D.cells (.agg cs) = cs := rfl
theorem cel_bool (b : Bool) : D.cells (.bool b) = [(.bool b)] := rfl
theorem cel_int (k : IntKind) (n : Int) : D.cells (.int k n) = [(.int k n)] := rfl
theorem cel_ptr (i o : Nat) : D.cells (.ptr i o) = [(.ptr i o)] := rfl
theorem cel_iptr (cs : List D) : D.cells (.iptr cs) = [(.iptr cs)] := rfl
theorem cel_nilp  : D.cells .nilp = [.nilp] := rfl
theorem cel_snil  : D.cells .snil = [.snil] := rfl
theorem cel_mp (i : Nat) : D.cells (.mp i) = [(.mp i)] := rfl
theorem cel_mnil  : D.cells .mnil = [.mnil] := rfl
theorem lay_agg (cs : List D) : D.lay (.agg cs) = true := rfl
theorem lay_bool (b : Bool) : D.lay (.bool b) = true := rfl
theorem lay_int (k : IntKind) (n : Int) : D.lay (.int k n) = true := rfl
theorem lay_ptr (i o : Nat) : D.lay (.ptr i o) = true := rfl
theorem lay_iptr (cs : List D) : D.lay (.iptr cs) = true := rfl
theorem lay_nilp  : D.lay .nilp = true := rfl
theorem lay_snil  : D.lay .snil = true := rfl
theorem lay_mp (i : Nat) : D.lay (.mp i) = true := rfl
theorem lay_mnil  : D.lay .mnil = true := rfl

structure Ent where
  key : Key
  val : Val
  dirty : Bool
  pins : Int
  deriving DecidableEq

def nodeC (e : Ent) (a b : Nat) : List D := kC e.key ++ [vD e.val, .bool e.dirty, .int .i64 e.pins, .ptr a 0, .ptr b 0]

def Nd (h : Heap) (N : List Nat) (en : Nat → Ent) (pv nx : Nat → Nat) : Prop := ∀ y ∈ N, h y = some (.cells (nodeC (en y) (pv y) (nx y)))

theorem Nd_fn {h h' : Heap} {N : List Nat} {en en' : Nat → Ent} {pv nx pv' nx' : Nat → Nat} (hN : Nd h N en pv nx)
    (hh : ∀ y ∈ N, h' y = h y ∧ en' y = en y ∧ pv' y = pv y ∧ nx' y = nx y ∨ h' y = some (.cells (nodeC (en' y) (pv' y) (nx' y)))) : Nd h' N en' pv' nx' := by
  intro y hy
  rcases hh y hy with ⟨h1, h2, h3, h4⟩ | h1
  · rw [h1, h2, h3, h4]; exact hN y hy
  · exact h1

theorem out_new (h : Heap) (x : Nat) (e : Ent) (hx : h x = some (.cells (kC e.key ++ [vD e.val, .bool e.dirty, .int .i64 e.pins, .nilp, .nilp]))) : CallsA Try.prog 49 [.ptr x 0] h fun _ h' => h' = h := by
  refine CallsA_body Try.func49 rfl en_49 ?_
  simp only [Try.ntmps49, List.length_cons, List.length_nil, List.replicate]
  repeat' (first
    | with_reducible refine WP_seq ?_
    | ((first | with_reducible refine WP_skip ?_ | with_reducible refine SQ_nil ?_); (first | simp only [Exit.sel, Exit.blk] | simp only [EV2, EVB, stepH, gdOf, modeOf, effD, opD, putD, ofV, ofV1, D.one, condP, Exit.sel, Exit.blk, RetP, oneOf, resD, putAt, nilD, extrD, fillD, buildD, mapPutD, mapDelD, mapEntD, entPutD, newMapD, moveD, boundD, makeD, appendD, liveD, reduceCtorEq, if_true, if_false, ne_eq, ty_fd_80_4, ty_sz_78, ty_ag_78, ty_pt_78, ty_sz_80, ty_fd_80_5, Try.results49, hx, kC, vD_cells, vD_lay, cel_agg, cel_bool, cel_int, cel_ptr, cel_iptr, cel_nilp, cel_snil, cel_mp, cel_mnil, lay_agg, lay_bool, lay_int, lay_ptr, lay_iptr, lay_nilp, lay_snil, lay_mp, lay_mnil, kD]))
    | ((first | with_reducible refine WP_cond ?_ | with_reducible refine WP_ret ?_ | ((with_reducible refine SQr rfl ?_); intro rest hrest)); simp only [EV2, EVB, stepH, gdOf, modeOf, effD, opD, putD, ofV, ofV1, D.one, condP, Exit.sel, Exit.blk, RetP, oneOf, resD, putAt, nilD, extrD, fillD, buildD, mapPutD, mapDelD, mapEntD, entPutD, newMapD, moveD, boundD, makeD, appendD, liveD, reduceCtorEq, if_true, if_false, ne_eq, ty_fd_80_4, ty_sz_78, ty_ag_78, ty_pt_78, ty_sz_80, ty_fd_80_5, Try.results49, hx, kC, vD_cells, vD_lay, cel_agg, cel_bool, cel_int, cel_ptr, cel_iptr, cel_nilp, cel_snil, cel_mp, cel_mnil, lay_agg, lay_bool, lay_int, lay_ptr, lay_iptr, lay_nilp, lay_snil, lay_mp, lay_mnil, kD])
    | with_reducible refine WP_block ?_
    | ((with_reducible refine WP_exit ?_); simp only [Exit.sel, Exit.blk, reduceIte, eq_self, Nat.reduceEqDiff, Nat.zero_ne_one, Nat.one_ne_zero])
    | ((with_reducible refine hrest _ ?_); clear hrest rest)
    | with_reducible refine WP_reg (fun _ => none) (fun _ => 0) (gamma0 _) ?_
    | with_reducible refine WP_draw (fun _ => none) (fun _ => 0) (gamma0 _) (by kernel_rfl) (by kernel_rfl) ?_
    | ((with_reducible refine ifP (fun _ => ?_) (fun _ => ?_)) <;> try (exfalso; omega))
    | (with_reducible refine And.intro ?_ ?_)
    | ((with_reducible refine (id ?_ : (_ : Nat) ≤ _)); omega))

theorem out_calls (h : Heap) (N : List Nat) (en : Nat → Ent) (pv nx : Nat → Nat) (x : Nat) (hN : Nd h N en pv nx) (hx : x ∈ N) (hp : pv x ∈ N) (hs : nx x ∈ N) (hpx : pv x ≠ x) (hsx : nx x ≠ x) :
    CallsA Try.prog 49 [.ptr x 0] h fun _ h' => Nd h' N en (fupd pv (nx x) (pv x)) (fupd nx (pv x) (nx x)) ∧ ∀ i, i ∉ N → h' i = h i := by
  refine CallsA_body Try.func49 rfl en_49 ?_
  simp only [Try.ntmps49, List.length_cons, List.length_nil, List.replicate]
  have hx' := hN x hx
  have hp' := hN _ hp
  have hs' := hN _ hs
  by_cases hps : nx x = pv x
  · repeat' (first
    | with_reducible refine WP_seq ?_
    | ((first | with_reducible refine WP_skip ?_ | with_reducible refine SQ_nil ?_); (first | simp only [Exit.sel, Exit.blk] | simp only [EV2, EVB, stepH, gdOf, modeOf, effD, opD, putD, ofV, ofV1, D.one, condP, Exit.sel, Exit.blk, RetP, oneOf, resD, putAt, nilD, extrD, fillD, buildD, mapPutD, mapDelD, mapEntD, entPutD, newMapD, moveD, boundD, makeD, appendD, liveD, reduceCtorEq, if_true, if_false, ne_eq, ty_fd_80_4, ty_sz_78, ty_ag_78, ty_pt_78, ty_sz_80, ty_fd_80_5, Try.results49, hx', hp', nodeC, kC, vD_cells, vD_lay, cel_agg, cel_bool, cel_int, cel_ptr, cel_iptr, cel_nilp, cel_snil, cel_mp, cel_mnil, lay_agg, lay_bool, lay_int, lay_ptr, lay_iptr, lay_nilp, lay_snil, lay_mp, lay_mnil, hps, kD]))
    | ((first | with_reducible refine WP_cond ?_ | with_reducible refine WP_ret ?_ | ((with_reducible refine SQr rfl ?_); intro rest hrest)); simp only [EV2, EVB, stepH, gdOf, modeOf, effD, opD, putD, ofV, ofV1, D.one, condP, Exit.sel, Exit.blk, RetP, oneOf, resD, putAt, nilD, extrD, fillD, buildD, mapPutD, mapDelD, mapEntD, entPutD, newMapD, moveD, boundD, makeD, appendD, liveD, reduceCtorEq, if_true, if_false, ne_eq, ty_fd_80_4, ty_sz_78, ty_ag_78, ty_pt_78, ty_sz_80, ty_fd_80_5, Try.results49, hx', hp', nodeC, kC, vD_cells, vD_lay, cel_agg, cel_bool, cel_int, cel_ptr, cel_iptr, cel_nilp, cel_snil, cel_mp, cel_mnil, lay_agg, lay_bool, lay_int, lay_ptr, lay_iptr, lay_nilp, lay_snil, lay_mp, lay_mnil, hps, kD])
    | with_reducible refine WP_block ?_
    | ((with_reducible refine WP_exit ?_); simp only [Exit.sel, Exit.blk, reduceIte, eq_self, Nat.reduceEqDiff, Nat.zero_ne_one, Nat.one_ne_zero])
    | ((with_reducible refine hrest _ ?_); clear hrest rest)
    | with_reducible refine WP_reg (fun _ => none) (fun _ => 0) (gamma0 _) ?_
    | with_reducible refine WP_draw (fun _ => none) (fun _ => 0) (gamma0 _) (by kernel_rfl) (by kernel_rfl) ?_
    | ((with_reducible refine ifP (fun _ => ?_) (fun _ => ?_)) <;> try (exfalso; omega))
    | (with_reducible refine And.intro ?_ ?_)
    | ((with_reducible refine (id ?_ : (_ : Nat) ≤ _)); omega))
    · refine Nd_fn hN fun y hy => ?_
      by_cases h1 : y = pv x
      · right; simp [h1, Heap.upd, fupd, nodeC, kC, vD]
      · left; simp [h1, Heap.upd, fupd]
    · intro i hi
      rw [Heap.upd_ne _ _ (fun e => hi (by rw [e]; exact hp)), Heap.upd_ne _ _ (fun e => hi (by rw [e]; exact hp))]
  · repeat' (first
    | with_reducible refine WP_seq ?_
    | ((first | with_reducible refine WP_skip ?_ | with_reducible refine SQ_nil ?_); (first | simp only [Exit.sel, Exit.blk] | simp only [EV2, EVB, stepH, gdOf, modeOf, effD, opD, putD, ofV, ofV1, D.one, condP, Exit.sel, Exit.blk, RetP, oneOf, resD, putAt, nilD, extrD, fillD, buildD, mapPutD, mapDelD, mapEntD, entPutD, newMapD, moveD, boundD, makeD, appendD, liveD, reduceCtorEq, if_true, if_false, ne_eq, ty_fd_80_4, ty_sz_78, ty_ag_78, ty_pt_78, ty_sz_80, ty_fd_80_5, Try.results49, hx', hp', hs', nodeC, kC, vD_cells, vD_lay, cel_agg, cel_bool, cel_int, cel_ptr, cel_iptr, cel_nilp, cel_snil, cel_mp, cel_mnil, lay_agg, lay_bool, lay_int, lay_ptr, lay_iptr, lay_nilp, lay_snil, lay_mp, lay_mnil, Heap.upd_ne, hps, kD]))
    | ((first | with_reducible refine WP_cond ?_ | with_reducible refine WP_ret ?_ | ((with_reducible refine SQr rfl ?_); intro rest hrest)); simp only [EV2, EVB, stepH, gdOf, modeOf, effD, opD, putD, ofV, ofV1, D.one, condP, Exit.sel, Exit.blk, RetP, oneOf, resD, putAt, nilD, extrD, fillD, buildD, mapPutD, mapDelD, mapEntD, entPutD, newMapD, moveD, boundD, makeD, appendD, liveD, reduceCtorEq, if_true, if_false, ne_eq, ty_fd_80_4, ty_sz_78, ty_ag_78, ty_pt_78, ty_sz_80, ty_fd_80_5, Try.results49, hx', hp', hs', nodeC, kC, vD_cells, vD_lay, cel_agg, cel_bool, cel_int, cel_ptr, cel_iptr, cel_nilp, cel_snil, cel_mp, cel_mnil, lay_agg, lay_bool, lay_int, lay_ptr, lay_iptr, lay_nilp, lay_snil, lay_mp, lay_mnil, Heap.upd_ne, hps, kD])
    | with_reducible refine WP_block ?_
    | ((with_reducible refine WP_exit ?_); simp only [Exit.sel, Exit.blk, reduceIte, eq_self, Nat.reduceEqDiff, Nat.zero_ne_one, Nat.one_ne_zero])
    | ((with_reducible refine hrest _ ?_); clear hrest rest)
    | with_reducible refine WP_reg (fun _ => none) (fun _ => 0) (gamma0 _) ?_
    | with_reducible refine WP_draw (fun _ => none) (fun _ => 0) (gamma0 _) (by kernel_rfl) (by kernel_rfl) ?_
    | ((with_reducible refine ifP (fun _ => ?_) (fun _ => ?_)) <;> try (exfalso; omega))
    | (with_reducible refine And.intro ?_ ?_)
    | ((with_reducible refine (id ?_ : (_ : Nat) ≤ _)); omega))
    · refine Nd_fn hN fun y hy => ?_
      by_cases h1 : y = pv x
      · right; have : pv x ≠ nx x := fun e => hps e.symm
        simp [h1, Heap.upd, fupd, nodeC, kC, vD, this]
      · by_cases h2 : y = nx x
        · right; simp [h2, Heap.upd, fupd, nodeC, kC, vD, hps]
        · left; simp [h1, h2, Heap.upd, fupd]
    · intro i hi
      rw [Heap.upd_ne _ _ (fun e => hi (by rw [e]; exact hs)), Heap.upd_ne _ _ (fun e => hi (by rw [e]; exact hp))]

/-- The ring. -/
structure Rg (h : Heap) (r : Nat) (ids : List Nat) (en : Nat → Ent) (pv nx : Nat → Nat) : Prop where
  nd : Nd h (r :: ids) en pv nx
  ch : Chain pv nx r ids r
  un : (r :: ids).Nodup

theorem nodup_mid {r x : Nat} {l1 l2 : List Nat} (h : (r :: (l1 ++ x :: l2)).Nodup) : (r :: (l1 ++ l2)).Nodup ∧ x ∉ r :: (l1 ++ l2) := by
  have hp : (r :: (l1 ++ x :: l2)).Perm (x :: r :: (l1 ++ l2)) := (List.Perm.cons r List.perm_middle).trans (List.Perm.swap x r _)
  have := (hp.nodup_iff).1 h
  exact ⟨(List.nodup_cons.1 this).2, (List.nodup_cons.1 this).1⟩

theorem Rg.links {h : Heap} {r : Nat} {ids : List Nat} {en : Nat → Ent} {pv nx : Nat → Nat} (H : Rg h r ids en pv nx) {x : Nat} (hx : x ∈ ids) :
    pv x ∈ r :: ids ∧ nx x ∈ r :: ids ∧ pv x ≠ x ∧ nx x ≠ x := by
  obtain ⟨l1, l2, rfl⟩ := List.append_of_mem hx
  obtain ⟨h1, h2⟩ := nodup_mid H.un
  have c := H.ch.split
  have a := c.1.pv_mem
  have b := c.2.nx_mem
  simp only [List.mem_cons, List.mem_append, List.not_mem_nil, or_false, not_or] at a b h2 ⊢
  refine ⟨?_, ?_, fun e => ?_, fun e => ?_⟩
  · rcases a with a | a <;> simp [a]
  · rcases b with b | b <;> simp [b]
  · rw [e] at a; rcases a with a | a
    · exact h2.1 a
    · exact h2.2.1 a
  · rw [e] at b; rcases b with b | b
    · exact h2.2.2 b
    · exact h2.1 b

theorem Rg.out {h h' : Heap} {r : Nat} {ids : List Nat} {en : Nat → Ent} {pv nx : Nat → Nat} (H : Rg h r ids en pv nx) {x : Nat} (hx : x ∈ ids) (hn : Nd h' (r :: ids) en (fupd pv (nx x) (pv x)) (fupd nx (pv x) (nx x))) :
    Rg h' r (ids.erase x) en (fupd pv (nx x) (pv x)) (fupd nx (pv x) (nx x)) ∧ x ∉ r :: ids.erase x := by
  obtain ⟨l1, l2, h0, hl, he⟩ := List.exists_erase_eq hx
  rw [he]
  subst hl
  obtain ⟨h1, h2⟩ := nodup_mid H.un
  refine ⟨⟨fun y hy => hn y ?_, H.ch.out H.un (List.nodup_cons.1 H.un).1, h1⟩, h2⟩
  simp only [List.mem_cons, List.mem_append] at hy ⊢
  rcases hy with h | h | h <;> simp [h]

/-- A ring with an entry put at its end. -/
theorem Rg.add {h h' : Heap} {r : Nat} {ids : List Nat} {en en' : Nat → Ent} {pv nx : Nat → Nat} (H : Rg h r ids en pv nx) {x : Nat} (hx : x ∉ r :: ids) (he : ∀ i ∈ r :: ids, en' i = en i)
    (h0 : ∀ i ∈ ids, i ≠ pv r → h' i = h i) (h1 : h' x = some (.cells (nodeC (en' x) (pv r) r)))
    (h2 : pv r ≠ r → h' (pv r) = some (.cells (nodeC (en' (pv r)) (pv (pv r)) x)) ∧ h' r = some (.cells (nodeC (en' r) x (nx r))))
    (h3 : pv r = r → h' r = some (.cells (nodeC (en' r) x x))) :
    Rg h' r (ids ++ [x]) en' (fupd (fupd pv x (pv r)) r x) (fupd (fupd nx x r) (pv r) x) := by
  have hxr : x ≠ r := fun e => hx (by simp [e])
  have hrx : r ≠ x := fun e => hxr e.symm
  have hpm : pv r ∈ r :: ids := H.ch.pv_mem
  have hpx : x ≠ pv r := fun e => hx (by rw [e]; exact hpm)
  refine ⟨fun y hy => ?_, H.ch.add H.un (List.nodup_cons.1 H.un).1 hx hxr, ?_⟩
  · by_cases hyx : y = x
    · subst hyx; rw [h1]; simp [fupd, hpx, hxr]
    · by_cases hpr : pv r = r
      · by_cases hyr : y = r
        · subst hyr; rw [h3 hpr]; simp [fupd, hpr]
        · have hm : y ∈ ids := by simpa [hyr, hyx] using hy
          rw [h0 y hm (by rw [hpr]; exact hyr), H.nd y (by simp [hm]), he y (by simp [hm])]
          simp [fupd, hyx, hyr, hpr]
      · obtain ⟨h4, h5⟩ := h2 hpr
        by_cases hyp : y = pv r
        · subst hyp; rw [h4]; simp [fupd, hpr, hpx.symm]
        · by_cases hyr : y = r
          · subst hyr; have hyy : y ≠ pv y := fun e => hpr e.symm
            rw [h5]; simp [fupd, hrx, hyy]
          · have hm : y ∈ ids := by simpa [hyr, hyx] using hy
            rw [h0 y hm hyp, H.nd y (by simp [hm]), he y (by simp [hm])]
            simp [fupd, hyx, hyr, hyp]
  · have hu := List.nodup_cons.1 H.un
    simp only [List.mem_cons, not_or] at hx
    refine List.nodup_cons.2 ⟨by simp [hu.1, hrx], List.nodup_append.2 ⟨hu.2, by simp, fun a ha b hb e => ?_⟩⟩
    simp at hb; subst hb; subst e; exact hx.2 ha
end Go.Proofs.Ytcjndiagbdkikaa.B

namespace Go.Proofs.Ytcjndiagbdkikaa.B

/-- With the entry out of the ring. -/
theorem use_core {h : Heap} {c m r x : Nat} {n : Int} {ids : List Nat} {en : Nat → Ent} (hc : h c = some (.cells [.int .i64 n, .mp m, .ptr r 0])) (hcx : c ∉ r :: x :: ids)
    (ho : CallsA Try.prog 49 [.ptr x 0] h fun _ h1 => h1 c = h c ∧ (∀ i, i ∉ r :: x :: ids → h1 i = h i) ∧ ∃ pv nx u v, Rg h1 r ids en pv nx ∧ x ∉ r :: ids ∧ h1 x = some (.cells (kC (en x).key ++ [vD (en x).val, .bool (en x).dirty, .int .i64 (en x).pins, u, v]))) :
    CallsA Try.prog 46 [.ptr c 0, .ptr x 0] h fun _ h' => (∃ pv nx, Rg h' r (ids ++ [x]) en pv nx) ∧ ∀ i, i ∉ r :: x :: ids → h' i = h i := by
  refine CallsA_body Try.func46 rfl en_46 ?_
  simp only [Try.ntmps46, List.length_cons, List.length_nil, List.replicate]
  repeat' (first
    | with_reducible refine WP_seq ?_
    | ((first | with_reducible refine WP_skip ?_ | with_reducible refine SQ_nil ?_); (first | simp only [Exit.sel, Exit.blk] | simp only [EV2, EVB, stepH, gdOf, modeOf, effD, opD, putD, ofV, ofV1, D.cells, D.lay, D.one, condP, Exit.sel, Exit.blk, RetP, oneOf, resD, putAt, nilD, extrD, fillD, buildD, mapPutD, mapDelD, mapEntD, entPutD, newMapD, moveD, boundD, makeD, appendD, liveD, reduceCtorEq, if_true, if_false, ne_eq, ty_fd_82_2, ty_sz_78, ty_ag_78, ty_fd_80_4, ty_fd_80_5, Try.results46, hc, kD]))
    | ((first | with_reducible refine WP_cond ?_ | with_reducible refine WP_ret ?_ | ((with_reducible refine SQr rfl ?_); intro rest hrest)); simp only [EV2, EVB, stepH, gdOf, modeOf, effD, opD, putD, ofV, ofV1, D.cells, D.lay, D.one, condP, Exit.sel, Exit.blk, RetP, oneOf, resD, putAt, nilD, extrD, fillD, buildD, mapPutD, mapDelD, mapEntD, entPutD, newMapD, moveD, boundD, makeD, appendD, liveD, reduceCtorEq, if_true, if_false, ne_eq, ty_fd_82_2, ty_sz_78, ty_ag_78, ty_fd_80_4, ty_fd_80_5, Try.results46, hc, kD])
    | with_reducible refine WP_block ?_
    | ((with_reducible refine WP_exit ?_); simp only [Exit.sel, Exit.blk, reduceIte, eq_self, Nat.reduceEqDiff, Nat.zero_ne_one, Nat.one_ne_zero])
    | ((with_reducible refine hrest _ ?_); clear hrest rest)
    | with_reducible refine WP_reg (fun _ => none) (fun _ => 0) (gamma0 _) ?_
    | with_reducible refine WP_draw (fun _ => none) (fun _ => 0) (gamma0 _) (by kernel_rfl) (by kernel_rfl) ?_
    | ((with_reducible refine ifP (fun _ => ?_) (fun _ => ?_)) <;> try (exfalso; omega))
    | (with_reducible refine And.intro ?_ ?_)
    | ((with_reducible refine (id ?_ : (_ : Nat) ≤ _)); omega))
  refine ho.mono fun _ h1 ⟨hc1, hf, pv, nx, u, v, H, hx, hxc⟩ => ?_
  rw [hc] at hc1
  clear ho hc
  have hpm : pv r ∈ r :: ids := H.ch.pv_mem
  have hr := H.nd r (by simp)
  have hp := H.nd _ hpm
  have hxr : x ≠ r := fun e => hx (by simp [e])
  have hrx : r ≠ x := fun e => hxr e.symm
  have hxp : x ≠ pv r := fun e => hx (by rw [e]; exact hpm)
  have hpx : pv r ≠ x := fun e => hxp e.symm
  have hcx' : c ≠ x := fun e => hcx (by simp [e])
  have hfr : ∀ i, i ∉ r :: x :: ids → i ≠ r ∧ i ≠ x ∧ i ≠ pv r := fun i hi => ⟨fun e => hi (by simp [e]), fun e => hi (by simp [e]), fun e => hi (by
    rw [e]; simp only [List.mem_cons] at hpm ⊢
    rcases hpm with h | h <;> simp [h])⟩
  by_cases hpr : pv r = r
  · repeat' (first
    | with_reducible refine WP_seq ?_
    | ((first | with_reducible refine WP_skip ?_ | with_reducible refine SQ_nil ?_); (first | simp only [Exit.sel, Exit.blk] | simp only [EV2, EVB, stepH, gdOf, modeOf, effD, opD, putD, ofV, ofV1, D.one, condP, Exit.sel, Exit.blk, RetP, oneOf, resD, putAt, nilD, extrD, fillD, buildD, mapPutD, mapDelD, mapEntD, entPutD, newMapD, moveD, boundD, makeD, appendD, liveD, reduceCtorEq, if_true, if_false, ne_eq, ty_fd_82_2, ty_sz_78, ty_ag_78, ty_fd_80_4, ty_fd_80_5, Try.results46, hc1, hr, hxc, nodeC, kC, vD_cells, vD_lay, cel_agg, cel_bool, cel_int, cel_ptr, cel_iptr, cel_nilp, cel_snil, cel_mp, cel_mnil, lay_agg, lay_bool, lay_int, lay_ptr, lay_iptr, lay_nilp, lay_snil, lay_mp, lay_mnil, hpr, Heap.upd_ne, hxr, hrx, hcx', kD]))
    | ((first | with_reducible refine WP_cond ?_ | with_reducible refine WP_ret ?_ | ((with_reducible refine SQr rfl ?_); intro rest hrest)); simp only [EV2, EVB, stepH, gdOf, modeOf, effD, opD, putD, ofV, ofV1, D.one, condP, Exit.sel, Exit.blk, RetP, oneOf, resD, putAt, nilD, extrD, fillD, buildD, mapPutD, mapDelD, mapEntD, entPutD, newMapD, moveD, boundD, makeD, appendD, liveD, reduceCtorEq, if_true, if_false, ne_eq, ty_fd_82_2, ty_sz_78, ty_ag_78, ty_fd_80_4, ty_fd_80_5, Try.results46, hc1, hr, hxc, nodeC, kC, vD_cells, vD_lay, cel_agg, cel_bool, cel_int, cel_ptr, cel_iptr, cel_nilp, cel_snil, cel_mp, cel_mnil, lay_agg, lay_bool, lay_int, lay_ptr, lay_iptr, lay_nilp, lay_snil, lay_mp, lay_mnil, hpr, Heap.upd_ne, hxr, hrx, hcx', kD])
    | with_reducible refine WP_block ?_
    | ((with_reducible refine WP_exit ?_); simp only [Exit.sel, Exit.blk, reduceIte, eq_self, Nat.reduceEqDiff, Nat.zero_ne_one, Nat.one_ne_zero])
    | ((with_reducible refine hrest _ ?_); clear hrest rest)
    | with_reducible refine WP_reg (fun _ => none) (fun _ => 0) (gamma0 _) ?_
    | with_reducible refine WP_draw (fun _ => none) (fun _ => 0) (gamma0 _) (by kernel_rfl) (by kernel_rfl) ?_
    | ((with_reducible refine ifP (fun _ => ?_) (fun _ => ?_)) <;> try (exfalso; omega))
    | (with_reducible refine And.intro ?_ ?_)
    | ((with_reducible refine (id ?_ : (_ : Nat) ≤ _)); omega))
    · refine ⟨_, _, H.add hx (fun _ _ => rfl) (fun i hi hip => ?_) ?_ (fun hn => absurd hpr hn) (fun _ => ?_)⟩
      · have h1 : i ≠ x := fun e => hx (by simp [← e, hi])
        rw [hpr] at hip
        simp [Heap.upd, h1, hip]
      · simp [Heap.upd, hxr, nodeC, kC, vD, hpr]
      · simp [Heap.upd, nodeC, kC, vD]
    · intro i hi
      obtain ⟨h1, h2, h3⟩ := hfr i hi
      rw [← hf i hi]
      simp [Heap.upd, h1, h2]
  · have hrp : r ≠ pv r := fun e => hpr e.symm
    repeat' (first
    | with_reducible refine WP_seq ?_
    | ((first | with_reducible refine WP_skip ?_ | with_reducible refine SQ_nil ?_); (first | simp only [Exit.sel, Exit.blk] | simp only [EV2, EVB, stepH, gdOf, modeOf, effD, opD, putD, ofV, ofV1, D.one, condP, Exit.sel, Exit.blk, RetP, oneOf, resD, putAt, nilD, extrD, fillD, buildD, mapPutD, mapDelD, mapEntD, entPutD, newMapD, moveD, boundD, makeD, appendD, liveD, reduceCtorEq, if_true, if_false, ne_eq, ty_fd_82_2, ty_sz_78, ty_ag_78, ty_fd_80_4, ty_fd_80_5, Try.results46, hc1, hr, hp, hxc, nodeC, kC, vD_cells, vD_lay, cel_agg, cel_bool, cel_int, cel_ptr, cel_iptr, cel_nilp, cel_snil, cel_mp, cel_mnil, lay_agg, lay_bool, lay_int, lay_ptr, lay_iptr, lay_nilp, lay_snil, lay_mp, lay_mnil, hpr, hrp, Heap.upd_ne, hxr, hrx, hcx', hxp, hpx, kD]))
    | ((first | with_reducible refine WP_cond ?_ | with_reducible refine WP_ret ?_ | ((with_reducible refine SQr rfl ?_); intro rest hrest)); simp only [EV2, EVB, stepH, gdOf, modeOf, effD, opD, putD, ofV, ofV1, D.one, condP, Exit.sel, Exit.blk, RetP, oneOf, resD, putAt, nilD, extrD, fillD, buildD, mapPutD, mapDelD, mapEntD, entPutD, newMapD, moveD, boundD, makeD, appendD, liveD, reduceCtorEq, if_true, if_false, ne_eq, ty_fd_82_2, ty_sz_78, ty_ag_78, ty_fd_80_4, ty_fd_80_5, Try.results46, hc1, hr, hp, hxc, nodeC, kC, vD_cells, vD_lay, cel_agg, cel_bool, cel_int, cel_ptr, cel_iptr, cel_nilp, cel_snil, cel_mp, cel_mnil, lay_agg, lay_bool, lay_int, lay_ptr, lay_iptr, lay_nilp, lay_snil, lay_mp, lay_mnil, hpr, hrp, Heap.upd_ne, hxr, hrx, hcx', hxp, hpx, kD])
    | with_reducible refine WP_block ?_
    | ((with_reducible refine WP_exit ?_); simp only [Exit.sel, Exit.blk, reduceIte, eq_self, Nat.reduceEqDiff, Nat.zero_ne_one, Nat.one_ne_zero])
    | ((with_reducible refine hrest _ ?_); clear hrest rest)
    | with_reducible refine WP_reg (fun _ => none) (fun _ => 0) (gamma0 _) ?_
    | with_reducible refine WP_draw (fun _ => none) (fun _ => 0) (gamma0 _) (by kernel_rfl) (by kernel_rfl) ?_
    | ((with_reducible refine ifP (fun _ => ?_) (fun _ => ?_)) <;> try (exfalso; omega))
    | (with_reducible refine And.intro ?_ ?_)
    | ((with_reducible refine (id ?_ : (_ : Nat) ≤ _)); omega))
    · refine ⟨_, _, H.add hx (fun _ _ => rfl) (fun i hi hip => ?_) ?_ (fun _ => ⟨?_, ?_⟩) (fun hn => absurd hn hpr)⟩
      · have h1 : i ≠ x := fun e => hx (by simp [← e, hi])
        have h2 : i ≠ r := fun e => (List.nodup_cons.1 H.un).1 (e ▸ hi)
        simp [Heap.upd, h1, h2, hip]
      · simp [Heap.upd, hxr, hxp, nodeC, kC, vD]
      · simp [Heap.upd, hpr, nodeC, kC, vD]
      · simp [Heap.upd, nodeC, kC, vD]
    · intro i hi
      obtain ⟨h1, h2, h3⟩ := hfr i hi
      rw [← hf i hi]
      simp [Heap.upd, h1, h2, h3]

/-- An entry of the ring. -/
theorem use_in {h : Heap} {c m r x : Nat} {n : Int} {ids : List Nat} {en : Nat → Ent} {pv nx : Nat → Nat} (hc : h c = some (.cells [.int .i64 n, .mp m, .ptr r 0])) (H : Rg h r ids en pv nx) (hcx : c ∉ r :: ids) (hx : x ∈ ids) :
    CallsA Try.prog 46 [.ptr c 0, .ptr x 0] h fun _ h' => (∃ pv nx, Rg h' r (ids.erase x ++ [x]) en pv nx) ∧ ∀ i, i ∉ r :: ids → h' i = h i := by
  have hsub : ∀ i, i ∉ r :: ids → i ∉ r :: x :: ids.erase x := fun i hi => by
    simp only [List.mem_cons, not_or] at hi ⊢
    exact ⟨hi.1, fun e => hi.2 (e ▸ hx), fun e => hi.2 (List.mem_of_mem_erase e)⟩
  have hsub' : ∀ i, i ∉ r :: x :: ids.erase x → i ∉ r :: ids := fun i hi => by
    simp only [List.mem_cons, not_or] at hi ⊢
    exact ⟨hi.1, fun e => hi.2.2 ((List.mem_erase_of_ne hi.2.1).2 e)⟩
  refine (use_core (en := en) (ids := ids.erase x) hc (hsub c hcx) ?_).mono fun _ h' ⟨h1, h2⟩ => ⟨h1, fun i hi => h2 i (hsub i hi)⟩
  obtain ⟨l1, l2, l3, l4⟩ := H.links hx
  refine (out_calls h (r :: ids) en pv nx x H.nd (by simp [hx]) l1 l2 l3 l4).mono fun _ h1 ⟨g1, g2⟩ => ⟨g2 c hcx, fun i hi => g2 i (hsub' i hi), _, _, .ptr (fupd pv (nx x) (pv x) x) 0, .ptr (fupd nx (pv x) (nx x) x) 0, (H.out hx g1).1, (H.out hx g1).2, ?_⟩
  have := g1 x (by simp [hx])
  rw [this]
  rfl

/-- A new one. -/
theorem use_new {h : Heap} {c m r x : Nat} {n : Int} {ids : List Nat} {en : Nat → Ent} {pv nx : Nat → Nat} (hc : h c = some (.cells [.int .i64 n, .mp m, .ptr r 0])) (H : Rg h r ids en pv nx) (hcx : c ∉ r :: x :: ids) (hx : x ∉ r :: ids)
    (hxc : h x = some (.cells (kC (en x).key ++ [vD (en x).val, .bool (en x).dirty, .int .i64 (en x).pins, .nilp, .nilp]))) :
    CallsA Try.prog 46 [.ptr c 0, .ptr x 0] h fun _ h' => (∃ pv nx, Rg h' r (ids ++ [x]) en pv nx) ∧ ∀ i, i ∉ r :: x :: ids → h' i = h i := by
  refine use_core hc hcx ?_
  refine (out_new h x (en x) hxc).mono fun _ h1 e => ?_
  subst e
  exact ⟨rfl, fun _ _ => rfl, _, _, _, _, H, hx, hxc⟩
end Go.Proofs.Ytcjndiagbdkikaa.B

namespace Go.Proofs.Ytcjndiagbdkikaa.B

theorem keyEq_kD (a b : Key) : keyEq (kD a) (kD b) = (b == a) := by
  obtain ⟨a1, a2⟩ := a; obtain ⟨b1, b2⟩ := b
  cases a1 <;> cases a2 <;> cases b1 <;> cases b2 <;> rfl
theorem isK (t : TypeId) (h : flags2 Try.prog t = true) (k : Key) : isKeyD Try.prog t (kD k) = true := by simp [isKeyD, kD, h]

def pk (e : ME) : D × D := (e.key, e.val)
def pd (p : Key × Nat) : D × D := (kD p.1, .ptr p.2 0)

theorem findM_pr (k : Key) : ∀ (mes : List ME) (pr : List (Key × Nat)), mes.map pk = pr.map pd → (findM (kD k) mes).map (·.val) = (pr.find? fun p => p.1 == k).map fun p => .ptr p.2 0
  | [], [], _ => rfl
  | [], _ :: _, h => by simp at h
  | _ :: _, [], h => by simp at h
  | e :: mes, p :: pr, h => by
    simp only [List.map_cons, List.cons.injEq, pk, pd, Prod.mk.injEq] at h
    have ih := findM_pr k mes pr h.2
    simp only [findM] at ih ⊢
    by_cases hk : p.1 = k
    · simp [h.1.1, keyEq_kD, hk, h.1.2]
    · simp [h.1.1, keyEq_kD, hk, ih]

theorem putM_pr (k : Key) (x clock : Nat) : ∀ (mes : List ME) (pr : List (Key × Nat)), mes.map pk = pr.map pd → (∀ p ∈ pr, p.1 ≠ k) → (putM (kD k) (.ptr x 0) clock mes).1.map pk = (pr ++ [(k, x)]).map pd
  | [], [], _, _ => rfl
  | [], _ :: _, h, _ => by simp at h
  | _ :: _, [], h, _ => by simp at h
  | e :: mes, p :: pr, h, hn => by
    have hh := h
    simp only [List.map_cons, List.cons.injEq, pk, pd, Prod.mk.injEq] at h
    have hk : (p.1 == k) = false := by simpa using hn p (by simp)
    have ih := putM_pr k x clock mes pr h.2 (fun q hq => hn q (by simp [hq]))
    simp only [putM, h.1.1, keyEq_kD, hk, Bool.false_eq_true, if_false, List.map_cons, List.cons_append, ih]
    simp only [pk, pd, h.1.1, h.1.2]

theorem delM_pr (k : Key) : ∀ (mes : List ME) (pr : List (Key × Nat)), mes.map pk = pr.map pd → (delM (kD k) mes).map pk = (pr.eraseP fun p => p.1 == k).map pd
  | [], [], _ => rfl
  | [], _ :: _, h => by simp at h
  | _ :: _, [], h => by simp at h
  | e :: mes, p :: pr, h => by
    have hh := h
    simp only [List.map_cons, List.cons.injEq, pk, pd, Prod.mk.injEq] at h
    have ih := delM_pr k mes pr h.2
    by_cases hk : p.1 = k
    · simp [delM, h.1.1, keyEq_kD, hk]; exact h.2
    · have hk' : (p.1 == k) = false := by simpa using hk
      simp only [delM, h.1.1, keyEq_kD, hk', List.map_cons, ih, List.eraseP_cons, Bool.false_eq_true, if_false, cond_false]
      simp only [pk, pd, h.1.1, h.1.2]

theorem keysOk_pr (t : TypeId) (h : flags2 Try.prog t = true) : ∀ (mes : List ME) (pr : List (Key × Nat)), mes.map pk = pr.map pd → keysOk Try.prog t mes = true
  | [], _, _ => rfl
  | _ :: _, [], h => by simp at h
  | e :: mes, p :: pr, hh => by
    simp only [List.map_cons, List.cons.injEq, pk, pd, Prod.mk.injEq] at hh
    have ih := keysOk_pr t h mes pr hh.2
    simp only [keysOk, List.all_cons, Bool.and_eq_true] at ih ⊢
    exact ⟨by rw [hh.1.1]; exact isK t h p.1, ih⟩

/-- The map. -/
def Mp (h : Heap) (m : Nat) (ids : List Nat) (en : Nat → Ent) : Prop :=
  ∃ (mes : List ME) (clock : Nat) (pr : List (Key × Nat)), h m = some (.map mes clock) ∧ mes.map pk = pr.map pd ∧ pr.Perm (ids.map fun i => ((en i).key, i))

/-- The cache. -/
structure Ca (h : Heap) (c m r : Nat) (n : Int) (ids : List Nat) (en : Nat → Ent) : Prop where
  hc : h c = some (.cells [.int .i64 n, .mp m, .ptr r 0])
  mp : Mp h m ids en
  rg : ∃ pv nx, Rg h r ids en pv nx
  ky : (ids.map fun i => (en i).key).Nodup

def lk (k : Key) (ids : List Nat) (en : Nat → Ent) : Option Nat := ids.find? fun i => (en i).key == k

theorem lk_some {k : Key} {ids : List Nat} {en : Nat → Ent} {i : Nat} (h : lk k ids en = some i) : i ∈ ids ∧ (en i).key = k := ⟨List.mem_of_find?_eq_some h, by simpa using List.find?_some h⟩
theorem lk_none {k : Key} {ids : List Nat} {en : Nat → Ent} (h : lk k ids en = none) : ∀ i ∈ ids, (en i).key ≠ k := fun i hi e => by
  have := List.find?_eq_none.1 h i hi
  simp [e] at this
theorem key_inj {ids : List Nat} {en : Nat → Ent} (h : (ids.map fun i => (en i).key).Nodup) : ∀ {i j : Nat}, i ∈ ids → j ∈ ids → (en i).key = (en j).key → i = j := by
  induction ids with
  | nil => intro i j hi; simp at hi
  | cons a l ih =>
    intro i j hi hj e
    simp only [List.map_cons, List.nodup_cons, List.mem_map, not_exists, not_and] at h
    rcases List.mem_cons.1 hi with hi | hi <;> rcases List.mem_cons.1 hj with hj | hj
    · rw [hi, hj]
    · exact absurd (by rw [← e, hi]) (h.1 j hj)
    · exact absurd (by rw [e, hj]) (h.1 i hi)
    · exact ih h.2 hi hj e

theorem pr_find {k : Key} {ids : List Nat} {en : Nat → Ent} {pr : List (Key × Nat)} (hp : pr.Perm (ids.map fun i => ((en i).key, i))) (hk : (ids.map fun i => (en i).key).Nodup) :
    ((pr.find? fun p => p.1 == k).map fun p => D.ptr p.2 0) = (lk k ids en).map fun i => .ptr i 0 := by
  cases hl : lk k ids en with
  | none =>
    have := lk_none hl
    have h0 : (pr.find? fun p => p.1 == k) = none := by
      refine List.find?_eq_none.2 fun p hpm => ?_
      have := hp.mem_iff.1 hpm
      simp only [List.mem_map] at this
      obtain ⟨i, hi, rfl⟩ := this
      simpa using lk_none hl i hi
    rw [h0]; rfl
  | some i =>
    obtain ⟨hi, he⟩ := lk_some hl
    have hm : (k, i) ∈ pr := hp.mem_iff.2 (List.mem_map.2 ⟨i, hi, by rw [he]⟩)
    cases hf : pr.find? fun p => p.1 == k with
    | none => have := List.find?_eq_none.1 hf _ hm; simp at this
    | some p =>
      have h1 := List.mem_of_find?_eq_some hf
      have h2 : p.1 = k := by simpa using List.find?_some hf
      have := hp.mem_iff.1 h1
      simp only [List.mem_map] at this
      obtain ⟨j, hj, rfl⟩ := this
      have : j = i := key_inj hk hj hi (by rw [he]; exact h2)
      simp [this]

theorem Ca.ne {h : Heap} {c m r : Nat} {n : Int} {ids : List Nat} {en : Nat → Ent} (H : Ca h c m r n ids en) : c ∉ r :: ids ∧ m ∉ r :: ids ∧ c ≠ m := by
  obtain ⟨mes, clock, pr, hm, _⟩ := H.mp
  obtain ⟨pv, nx, R⟩ := H.rg
  refine ⟨fun e => ?_, fun e => ?_, fun e => ?_⟩
  · have := R.nd c e; rw [H.hc] at this; simp [nodeC, kC] at this
  · have := R.nd m e; rw [hm] at this; simp at this
  · have := H.hc; rw [e, hm] at this; simp at this

theorem find_nil (h : Heap) (k : Key) : CallsA Try.prog 45 [.nilp, kD k] h fun d h' => d = .nilp ∧ h' = h := by
  refine CallsA_body Try.func45 rfl en_45 ?_
  simp only [Try.ntmps45, List.length_cons, List.length_nil, List.replicate]
  repeat' (first
    | with_reducible refine WP_seq ?_
    | ((first | with_reducible refine WP_skip ?_ | with_reducible refine SQ_nil ?_); (first | simp only [Exit.sel, Exit.blk] | simp only [EV2, EVB, stepH, gdOf, modeOf, effD, opD, putD, ofV, ofV1, D.cells, D.lay, D.one, condP, Exit.sel, Exit.blk, RetP, oneOf, resD, putAt, nilD, extrD, fillD, buildD, mapPutD, mapDelD, mapEntD, entPutD, newMapD, moveD, boundD, makeD, appendD, liveD, reduceCtorEq, if_true, if_false, ne_eq, ty_pt_49, ty_sz_82, ty_fd_82_1, ty_sz_77, ty_ag_77, ty_ag_52, ty_sz_52, ty_ma_77, ty_zr_78, ty_fl_52, ev_key_f, Try.results45, kD]))
    | ((first | with_reducible refine WP_cond ?_ | with_reducible refine WP_ret ?_ | ((with_reducible refine SQr rfl ?_); intro rest hrest)); simp only [EV2, EVB, stepH, gdOf, modeOf, effD, opD, putD, ofV, ofV1, D.cells, D.lay, D.one, condP, Exit.sel, Exit.blk, RetP, oneOf, resD, putAt, nilD, extrD, fillD, buildD, mapPutD, mapDelD, mapEntD, entPutD, newMapD, moveD, boundD, makeD, appendD, liveD, reduceCtorEq, if_true, if_false, ne_eq, ty_pt_49, ty_sz_82, ty_fd_82_1, ty_sz_77, ty_ag_77, ty_ag_52, ty_sz_52, ty_ma_77, ty_zr_78, ty_fl_52, ev_key_f, Try.results45, kD])
    | with_reducible refine WP_block ?_
    | ((with_reducible refine WP_exit ?_); simp only [Exit.sel, Exit.blk, reduceIte, eq_self, Nat.reduceEqDiff, Nat.zero_ne_one, Nat.one_ne_zero])
    | ((with_reducible refine hrest _ ?_); clear hrest rest)
    | with_reducible refine WP_reg (fun _ => none) (fun _ => 0) (gamma0 _) ?_
    | with_reducible refine WP_draw (fun _ => none) (fun _ => 0) (gamma0 _) (by kernel_rfl) (by kernel_rfl) ?_
    | ((with_reducible refine ifP (fun _ => ?_) (fun _ => ?_)) <;> try (exfalso; omega))
    | (with_reducible refine And.intro ?_ ?_)
    | ((with_reducible refine (id ?_ : (_ : Nat) ≤ _)); omega))
  all_goals rfl

theorem find_calls {h : Heap} {c m r : Nat} {n : Int} {ids : List Nat} {en : Nat → Ent} (H : Ca h c m r n ids en) (k : Key) :
    CallsA Try.prog 45 [.ptr c 0, kD k] h fun d h' => d = ((lk k ids en).map fun i => .ptr i 0).getD .nilp ∧ h' = h := by
  obtain ⟨mes, clock, pr, hm, h1, h2⟩ := H.mp
  have hf := findM_pr k mes pr h1
  rw [pr_find h2 H.ky] at hf
  simp only [kD] at hf
  have hc := H.hc
  have hks := fun t ht => keysOk_pr t ht mes pr h1
  have hik := fun t ht => isK t ht k
  refine CallsA_body Try.func45 rfl en_45 ?_
  simp only [Try.ntmps45, List.length_cons, List.length_nil, List.replicate]
  repeat' (first
    | with_reducible refine WP_seq ?_
    | ((first | with_reducible refine WP_skip ?_ | with_reducible refine SQ_nil ?_); (first | simp only [Exit.sel, Exit.blk] | simp only [EV2, EVB, stepH, gdOf, modeOf, effD, opD, putD, ofV, ofV1, D.cells, D.lay, D.one, condP, Exit.sel, Exit.blk, RetP, oneOf, resD, putAt, nilD, extrD, fillD, buildD, mapPutD, mapDelD, mapEntD, entPutD, newMapD, moveD, boundD, makeD, appendD, liveD, reduceCtorEq, if_true, if_false, ne_eq, ty_pt_49, ty_sz_82, ty_fd_82_1, ty_sz_77, ty_ag_77, ty_ag_52, ty_sz_52, ty_ma_77, ty_zr_78, ty_fl_52, ev_key_f, Try.results45, hc, lookD, entriesOf, hm, hks, hf, kD]))
    | ((first | with_reducible refine WP_cond ?_ | with_reducible refine WP_ret ?_ | ((with_reducible refine SQr rfl ?_); intro rest hrest)); simp only [EV2, EVB, stepH, gdOf, modeOf, effD, opD, putD, ofV, ofV1, D.cells, D.lay, D.one, condP, Exit.sel, Exit.blk, RetP, oneOf, resD, putAt, nilD, extrD, fillD, buildD, mapPutD, mapDelD, mapEntD, entPutD, newMapD, moveD, boundD, makeD, appendD, liveD, reduceCtorEq, if_true, if_false, ne_eq, ty_pt_49, ty_sz_82, ty_fd_82_1, ty_sz_77, ty_ag_77, ty_ag_52, ty_sz_52, ty_ma_77, ty_zr_78, ty_fl_52, ev_key_f, Try.results45, hc, lookD, entriesOf, hm, hks, hf, kD])
    | with_reducible refine WP_block ?_
    | ((with_reducible refine WP_exit ?_); simp only [Exit.sel, Exit.blk, reduceIte, eq_self, Nat.reduceEqDiff, Nat.zero_ne_one, Nat.one_ne_zero])
    | ((with_reducible refine hrest _ ?_); clear hrest rest)
    | with_reducible refine WP_reg (fun _ => none) (fun _ => 0) (gamma0 _) ?_
    | with_reducible refine WP_draw (fun _ => none) (fun _ => 0) (gamma0 _) (by kernel_rfl) (by kernel_rfl) ?_
    | ((with_reducible refine ifP (fun _ => ?_) (fun _ => ?_)) <;> try (exfalso; omega))
    | (with_reducible refine And.intro ?_ ?_)
    | ((with_reducible refine (id ?_ : (_ : Nat) ≤ _)); omega))
  all_goals rfl
end Go.Proofs.Ytcjndiagbdkikaa.B

namespace Go.Proofs.Ytcjndiagbdkikaa.B

/-- What stays. -/
structure Fr (h h' : Heap) (F F' : List Nat) : Prop where
  keep : ∀ i, i ∉ F → h i ≠ none → h' i = h i
  foot : ∀ i ∈ F', i ∈ F ∨ h i = none

theorem Fr.refl (h : Heap) (F : List Nat) : Fr h h F F := ⟨fun _ _ _ => rfl, fun _ h => .inl h⟩

/-- The cache as a list of entries. -/
def CaL (h : Heap) (c : Nat) (F : List Nat) (n : Int) (L : List Ent) : Prop := ∃ m r ids en, Ca h c m r n ids en ∧ F = c :: m :: r :: ids ∧ L = ids.map en

def fnd (k : Key) (L : List Ent) : Option Ent := L.find? fun e => e.key == k
def rem (k : Key) (L : List Ent) : List Ent := L.eraseP fun e => e.key == k
def usd (k : Key) (L : List Ent) : List Ent := match fnd k L with | none => L | some e => rem k L ++ [e]

theorem fnd_map (k : Key) (ids : List Nat) (en : Nat → Ent) : fnd k (ids.map en) = (lk k ids en).map en := by
  simp only [fnd, lk, List.find?_map]; rfl

theorem rem_map {k : Key} {ids : List Nat} {en : Nat → Ent} {i : Nat} (h : lk k ids en = some i) : rem k (ids.map en) = (ids.erase i).map en := by
  obtain ⟨h1, l1, l2, rfl, h2⟩ := List.find?_eq_some_iff_append.1 h
  have hi : i ∉ l1 := fun hm => by have := h2 i hm; simp [h1] at this
  have h1' : (en i).key = k := by simpa using h1
  rw [List.erase_append_right _ hi, List.erase_cons_head, rem, List.map_append, List.eraseP_append_right, List.map_cons, List.eraseP_cons_of_pos (by simp [h1']), List.map_append]
  intro e he
  obtain ⟨j, hj, rfl⟩ := List.mem_map.1 he
  simpa using h2 j hj

/-- Reordered. -/
theorem Ca.perm {h h' : Heap} {c m r : Nat} {n : Int} {ids ids' : List Nat} {en : Nat → Ent} (H : Ca h c m r n ids en) (hp : ids'.Perm ids) (hf : ∀ i, i ∉ r :: ids → h' i = h i) (hr : ∃ pv nx, Rg h' r ids' en pv nx) : Ca h' c m r n ids' en := by
  obtain ⟨n1, n2, n3⟩ := H.ne
  obtain ⟨mes, clock, pr, hm, h1, h2⟩ := H.mp
  exact ⟨by rw [hf c n1]; exact H.hc, ⟨mes, clock, pr, by rw [hf m n2]; exact hm, h1, h2.trans (hp.map _).symm⟩, hr, ((hp.map _).nodup_iff).2 H.ky⟩

theorem perm_use {ids : List Nat} {i : Nat} (h : i ∈ ids) : (ids.erase i ++ [i]).Perm ids :=
  (List.perm_append_comm (l₁ := ids.erase i) (l₂ := [i])).trans (List.perm_cons_erase h).symm

theorem get_nil (h : Heap) (k : Key) : CallsA Try.prog 22 [.nilp, kD k] h fun d h' => d = .tup [vD vz, .bool false] ∧ h' = h := by
  refine CallsA_body Try.func22 rfl en_22 ?_
  simp only [Try.ntmps22, List.length_cons, List.length_nil, List.replicate]
  repeat' (first
    | with_reducible refine WP_seq ?_
    | ((first | with_reducible refine WP_skip ?_ | with_reducible refine SQ_nil ?_); (first | simp only [Exit.sel, Exit.blk] | simp only [EV2, EVB, stepH, gdOf, modeOf, effD, opD, putD, ofV, ofV1, D.cells, D.lay, D.one, condP, Exit.sel, Exit.blk, RetP, oneOf, resD, putAt, nilD, extrD, fillD, buildD, mapPutD, mapDelD, mapEntD, entPutD, newMapD, moveD, boundD, makeD, appendD, liveD, reduceCtorEq, if_true, if_false, ne_eq, ty_ag_52, ty_sz_52, ty_pt_78, ty_sz_80, ty_fd_80_1, ty_sz_22, ty_ag_22, Try.results22, kD]))
    | ((first | with_reducible refine WP_cond ?_ | with_reducible refine WP_ret ?_ | ((with_reducible refine SQr rfl ?_); intro rest hrest)); simp only [EV2, EVB, stepH, gdOf, modeOf, effD, opD, putD, ofV, ofV1, D.cells, D.lay, D.one, condP, Exit.sel, Exit.blk, RetP, oneOf, resD, putAt, nilD, extrD, fillD, buildD, mapPutD, mapDelD, mapEntD, entPutD, newMapD, moveD, boundD, makeD, appendD, liveD, reduceCtorEq, if_true, if_false, ne_eq, ty_ag_52, ty_sz_52, ty_pt_78, ty_sz_80, ty_fd_80_1, ty_sz_22, ty_ag_22, Try.results22, kD])
    | with_reducible refine WP_block ?_
    | ((with_reducible refine WP_exit ?_); simp only [Exit.sel, Exit.blk, reduceIte, eq_self, Nat.reduceEqDiff, Nat.zero_ne_one, Nat.one_ne_zero])
    | ((with_reducible refine hrest _ ?_); clear hrest rest)
    | with_reducible refine WP_reg (fun _ => none) (fun _ => 0) (gamma0 _) ?_
    | with_reducible refine WP_draw (fun _ => none) (fun _ => 0) (gamma0 _) (by kernel_rfl) (by kernel_rfl) ?_
    | ((with_reducible refine ifP (fun _ => ?_) (fun _ => ?_)) <;> try (exfalso; omega))
    | (with_reducible refine And.intro ?_ ?_)
    | ((with_reducible refine (id ?_ : (_ : Nat) ≤ _)); omega))
  refine (find_nil h k).mono fun _ h' ⟨hd, hh⟩ => ?_
  subst hd hh
  repeat' (first
    | with_reducible refine WP_seq ?_
    | ((first | with_reducible refine WP_skip ?_ | with_reducible refine SQ_nil ?_); (first | simp only [Exit.sel, Exit.blk] | simp only [EV2, EVB, stepH, gdOf, modeOf, effD, opD, putD, ofV, ofV1, D.cells, D.lay, D.one, condP, Exit.sel, Exit.blk, RetP, oneOf, resD, putAt, nilD, extrD, fillD, buildD, mapPutD, mapDelD, mapEntD, entPutD, newMapD, moveD, boundD, makeD, appendD, liveD, reduceCtorEq, if_true, if_false, ne_eq, ty_ag_52, ty_sz_52, ty_pt_78, ty_sz_80, ty_fd_80_1, ty_sz_22, ty_ag_22, Try.results22, kD]))
    | ((first | with_reducible refine WP_cond ?_ | with_reducible refine WP_ret ?_ | ((with_reducible refine SQr rfl ?_); intro rest hrest)); simp only [EV2, EVB, stepH, gdOf, modeOf, effD, opD, putD, ofV, ofV1, D.cells, D.lay, D.one, condP, Exit.sel, Exit.blk, RetP, oneOf, resD, putAt, nilD, extrD, fillD, buildD, mapPutD, mapDelD, mapEntD, entPutD, newMapD, moveD, boundD, makeD, appendD, liveD, reduceCtorEq, if_true, if_false, ne_eq, ty_ag_52, ty_sz_52, ty_pt_78, ty_sz_80, ty_fd_80_1, ty_sz_22, ty_ag_22, Try.results22, kD])
    | with_reducible refine WP_block ?_
    | ((with_reducible refine WP_exit ?_); simp only [Exit.sel, Exit.blk, reduceIte, eq_self, Nat.reduceEqDiff, Nat.zero_ne_one, Nat.one_ne_zero])
    | ((with_reducible refine hrest _ ?_); clear hrest rest)
    | with_reducible refine WP_reg (fun _ => none) (fun _ => 0) (gamma0 _) ?_
    | with_reducible refine WP_draw (fun _ => none) (fun _ => 0) (gamma0 _) (by kernel_rfl) (by kernel_rfl) ?_
    | ((with_reducible refine ifP (fun _ => ?_) (fun _ => ?_)) <;> try (exfalso; omega))
    | (with_reducible refine And.intro ?_ ?_)
    | ((with_reducible refine (id ?_ : (_ : Nat) ≤ _)); omega))
  all_goals rfl

theorem get_calls {h : Heap} {c : Nat} {F : List Nat} {n : Int} {L : List Ent} (H : CaL h c F n L) (k : Key) :
    CallsA Try.prog 22 [.ptr c 0, kD k] h fun d h' => d = .tup [vD (((fnd k L).map Ent.val).getD vz), .bool (fnd k L).isSome] ∧ ∃ F', CaL h' c F' n (usd k L) ∧ Fr h h' F F' := by
  obtain ⟨m, r, ids, en, H, rfl, rfl⟩ := H
  have hc := H.hc
  rw [usd, fnd_map]
  refine CallsA_body Try.func22 rfl en_22 ?_
  simp only [Try.ntmps22, List.length_cons, List.length_nil, List.replicate]
  repeat' (first
    | with_reducible refine WP_seq ?_
    | ((first | with_reducible refine WP_skip ?_ | with_reducible refine SQ_nil ?_); (first | simp only [Exit.sel, Exit.blk] | simp only [EV2, EVB, stepH, gdOf, modeOf, effD, opD, putD, ofV, ofV1, D.cells, D.lay, D.one, condP, Exit.sel, Exit.blk, RetP, oneOf, resD, putAt, nilD, extrD, fillD, buildD, mapPutD, mapDelD, mapEntD, entPutD, newMapD, moveD, boundD, makeD, appendD, liveD, reduceCtorEq, if_true, if_false, ne_eq, ty_ag_52, ty_sz_52, ty_pt_78, ty_sz_80, ty_fd_80_1, ty_sz_22, ty_ag_22, Try.results22, kD]))
    | ((first | with_reducible refine WP_cond ?_ | with_reducible refine WP_ret ?_ | ((with_reducible refine SQr rfl ?_); intro rest hrest)); simp only [EV2, EVB, stepH, gdOf, modeOf, effD, opD, putD, ofV, ofV1, D.cells, D.lay, D.one, condP, Exit.sel, Exit.blk, RetP, oneOf, resD, putAt, nilD, extrD, fillD, buildD, mapPutD, mapDelD, mapEntD, entPutD, newMapD, moveD, boundD, makeD, appendD, liveD, reduceCtorEq, if_true, if_false, ne_eq, ty_ag_52, ty_sz_52, ty_pt_78, ty_sz_80, ty_fd_80_1, ty_sz_22, ty_ag_22, Try.results22, kD])
    | with_reducible refine WP_block ?_
    | ((with_reducible refine WP_exit ?_); simp only [Exit.sel, Exit.blk, reduceIte, eq_self, Nat.reduceEqDiff, Nat.zero_ne_one, Nat.one_ne_zero])
    | ((with_reducible refine hrest _ ?_); clear hrest rest)
    | with_reducible refine WP_reg (fun _ => none) (fun _ => 0) (gamma0 _) ?_
    | with_reducible refine WP_draw (fun _ => none) (fun _ => 0) (gamma0 _) (by kernel_rfl) (by kernel_rfl) ?_
    | ((with_reducible refine ifP (fun _ => ?_) (fun _ => ?_)) <;> try (exfalso; omega))
    | (with_reducible refine And.intro ?_ ?_)
    | ((with_reducible refine (id ?_ : (_ : Nat) ≤ _)); omega))
  refine (find_calls H k).mono fun d h' ⟨hd, hh⟩ => ?_
  subst hd hh
  (with_reducible refine hrest _ ?_); clear hrest rest
  cases hl : lk k ids en with
  | none =>
    simp only [Option.map_none, Option.getD_none]
    repeat' (first
    | with_reducible refine WP_seq ?_
    | ((first | with_reducible refine WP_skip ?_ | with_reducible refine SQ_nil ?_); (first | simp only [Exit.sel, Exit.blk] | simp only [EV2, EVB, stepH, gdOf, modeOf, effD, opD, putD, ofV, ofV1, D.cells, D.lay, D.one, condP, Exit.sel, Exit.blk, RetP, oneOf, resD, putAt, nilD, extrD, fillD, buildD, mapPutD, mapDelD, mapEntD, entPutD, newMapD, moveD, boundD, makeD, appendD, liveD, reduceCtorEq, if_true, if_false, ne_eq, ty_ag_52, ty_sz_52, ty_pt_78, ty_sz_80, ty_fd_80_1, ty_sz_22, ty_ag_22, Try.results22, kD]))
    | ((first | with_reducible refine WP_cond ?_ | with_reducible refine WP_ret ?_ | ((with_reducible refine SQr rfl ?_); intro rest hrest)); simp only [EV2, EVB, stepH, gdOf, modeOf, effD, opD, putD, ofV, ofV1, D.cells, D.lay, D.one, condP, Exit.sel, Exit.blk, RetP, oneOf, resD, putAt, nilD, extrD, fillD, buildD, mapPutD, mapDelD, mapEntD, entPutD, newMapD, moveD, boundD, makeD, appendD, liveD, reduceCtorEq, if_true, if_false, ne_eq, ty_ag_52, ty_sz_52, ty_pt_78, ty_sz_80, ty_fd_80_1, ty_sz_22, ty_ag_22, Try.results22, kD])
    | with_reducible refine WP_block ?_
    | ((with_reducible refine WP_exit ?_); simp only [Exit.sel, Exit.blk, reduceIte, eq_self, Nat.reduceEqDiff, Nat.zero_ne_one, Nat.one_ne_zero])
    | ((with_reducible refine hrest _ ?_); clear hrest rest)
    | with_reducible refine WP_reg (fun _ => none) (fun _ => 0) (gamma0 _) ?_
    | with_reducible refine WP_draw (fun _ => none) (fun _ => 0) (gamma0 _) (by kernel_rfl) (by kernel_rfl) ?_
    | ((with_reducible refine ifP (fun _ => ?_) (fun _ => ?_)) <;> try (exfalso; omega))
    | (with_reducible refine And.intro ?_ ?_)
    | ((with_reducible refine (id ?_ : (_ : Nat) ≤ _)); omega))
    · rfl
    · exact ⟨_, ⟨m, r, ids, en, H, rfl, rfl⟩, .refl _ _⟩
  | some i =>
    simp only [Option.map_some, Option.getD_some]
    repeat' (first
    | with_reducible refine WP_seq ?_
    | ((first | with_reducible refine WP_skip ?_ | with_reducible refine SQ_nil ?_); (first | simp only [Exit.sel, Exit.blk] | simp only [EV2, EVB, stepH, gdOf, modeOf, effD, opD, putD, ofV, ofV1, D.cells, D.lay, D.one, condP, Exit.sel, Exit.blk, RetP, oneOf, resD, putAt, nilD, extrD, fillD, buildD, mapPutD, mapDelD, mapEntD, entPutD, newMapD, moveD, boundD, makeD, appendD, liveD, reduceCtorEq, if_true, if_false, ne_eq, ty_ag_52, ty_sz_52, ty_pt_78, ty_sz_80, ty_fd_80_1, ty_sz_22, ty_ag_22, Try.results22, kD]))
    | ((first | with_reducible refine WP_cond ?_ | with_reducible refine WP_ret ?_ | ((with_reducible refine SQr rfl ?_); intro rest hrest)); simp only [EV2, EVB, stepH, gdOf, modeOf, effD, opD, putD, ofV, ofV1, D.cells, D.lay, D.one, condP, Exit.sel, Exit.blk, RetP, oneOf, resD, putAt, nilD, extrD, fillD, buildD, mapPutD, mapDelD, mapEntD, entPutD, newMapD, moveD, boundD, makeD, appendD, liveD, reduceCtorEq, if_true, if_false, ne_eq, ty_ag_52, ty_sz_52, ty_pt_78, ty_sz_80, ty_fd_80_1, ty_sz_22, ty_ag_22, Try.results22, kD])
    | with_reducible refine WP_block ?_
    | ((with_reducible refine WP_exit ?_); simp only [Exit.sel, Exit.blk, reduceIte, eq_self, Nat.reduceEqDiff, Nat.zero_ne_one, Nat.one_ne_zero])
    | ((with_reducible refine hrest _ ?_); clear hrest rest)
    | with_reducible refine WP_reg (fun _ => none) (fun _ => 0) (gamma0 _) ?_
    | with_reducible refine WP_draw (fun _ => none) (fun _ => 0) (gamma0 _) (by kernel_rfl) (by kernel_rfl) ?_
    | ((with_reducible refine ifP (fun _ => ?_) (fun _ => ?_)) <;> try (exfalso; omega))
    | (with_reducible refine And.intro ?_ ?_)
    | ((with_reducible refine (id ?_ : (_ : Nat) ≤ _)); omega))
    obtain ⟨hi, hk⟩ := lk_some hl
    obtain ⟨pv, nx, R⟩ := H.rg
    refine (use_in hc R H.ne.1 hi).mono fun _ h1 ⟨⟨pv1, nx1, R1⟩, hf⟩ => ?_
    have hx := R1.nd i (by simp)
    repeat' (first
    | with_reducible refine WP_seq ?_
    | ((first | with_reducible refine WP_skip ?_ | with_reducible refine SQ_nil ?_); (first | simp only [Exit.sel, Exit.blk] | simp only [EV2, EVB, stepH, gdOf, modeOf, effD, opD, putD, ofV, ofV1, D.one, condP, Exit.sel, Exit.blk, RetP, oneOf, resD, putAt, nilD, extrD, fillD, buildD, mapPutD, mapDelD, mapEntD, entPutD, newMapD, moveD, boundD, makeD, appendD, liveD, reduceCtorEq, if_true, if_false, ne_eq, ty_ag_52, ty_sz_52, ty_pt_78, ty_sz_80, ty_fd_80_1, ty_sz_22, ty_ag_22, Try.results22, hx, nodeC, kC, vD_cells, vD_lay, cel_agg, cel_bool, cel_int, cel_ptr, cel_iptr, cel_nilp, cel_snil, cel_mp, cel_mnil, lay_agg, lay_bool, lay_int, lay_ptr, lay_iptr, lay_nilp, lay_snil, lay_mp, lay_mnil, kD]))
    | ((first | with_reducible refine WP_cond ?_ | with_reducible refine WP_ret ?_ | ((with_reducible refine SQr rfl ?_); intro rest hrest)); simp only [EV2, EVB, stepH, gdOf, modeOf, effD, opD, putD, ofV, ofV1, D.one, condP, Exit.sel, Exit.blk, RetP, oneOf, resD, putAt, nilD, extrD, fillD, buildD, mapPutD, mapDelD, mapEntD, entPutD, newMapD, moveD, boundD, makeD, appendD, liveD, reduceCtorEq, if_true, if_false, ne_eq, ty_ag_52, ty_sz_52, ty_pt_78, ty_sz_80, ty_fd_80_1, ty_sz_22, ty_ag_22, Try.results22, hx, nodeC, kC, vD_cells, vD_lay, cel_agg, cel_bool, cel_int, cel_ptr, cel_iptr, cel_nilp, cel_snil, cel_mp, cel_mnil, lay_agg, lay_bool, lay_int, lay_ptr, lay_iptr, lay_nilp, lay_snil, lay_mp, lay_mnil, kD])
    | with_reducible refine WP_block ?_
    | ((with_reducible refine WP_exit ?_); simp only [Exit.sel, Exit.blk, reduceIte, eq_self, Nat.reduceEqDiff, Nat.zero_ne_one, Nat.one_ne_zero])
    | ((with_reducible refine hrest _ ?_); clear hrest rest)
    | with_reducible refine WP_reg (fun _ => none) (fun _ => 0) (gamma0 _) ?_
    | with_reducible refine WP_draw (fun _ => none) (fun _ => 0) (gamma0 _) (by kernel_rfl) (by kernel_rfl) ?_
    | ((with_reducible refine ifP (fun _ => ?_) (fun _ => ?_)) <;> try (exfalso; omega))
    | (with_reducible refine And.intro ?_ ?_)
    | ((with_reducible refine (id ?_ : (_ : Nat) ≤ _)); omega))
    · refine ⟨_, ⟨m, r, _, en, H.perm (perm_use hi) hf ⟨_, _, R1⟩, rfl, ?_⟩, ⟨fun j hj _ => hf j ?_, fun j hj => .inl ?_⟩⟩
      · rw [rem_map hl]; simp
      · intro e; apply hj; simp only [List.mem_cons] at e ⊢; exact .inr (.inr e)
      · simp only [List.mem_cons, (perm_use hi).mem_iff] at hj ⊢; exact hj

theorem len_nil (h : Heap) : CallsA Try.prog 29 [.nilp] h fun d h' => d = .int .i64 0 ∧ h' = h := by
  refine CallsA_body Try.func29 rfl en_29 ?_
  simp only [Try.ntmps29, List.length_cons, List.length_nil, List.replicate]
  repeat' (first
    | with_reducible refine WP_seq ?_
    | ((first | with_reducible refine WP_skip ?_ | with_reducible refine SQ_nil ?_); (first | simp only [Exit.sel, Exit.blk] | simp only [EV2, EVB, stepH, gdOf, modeOf, effD, opD, putD, ofV, ofV1, D.cells, D.lay, D.one, condP, Exit.sel, Exit.blk, RetP, oneOf, resD, putAt, nilD, extrD, fillD, buildD, mapPutD, mapDelD, mapEntD, entPutD, newMapD, moveD, boundD, makeD, appendD, liveD, reduceCtorEq, if_true, if_false, ne_eq, ty_pt_49, ty_sz_82, ty_fd_82_1, ty_sz_77, ty_ag_77, ty_mu_77, ty_ma_77, Try.results29, kD]))
    | ((first | with_reducible refine WP_cond ?_ | with_reducible refine WP_ret ?_ | ((with_reducible refine SQr rfl ?_); intro rest hrest)); simp only [EV2, EVB, stepH, gdOf, modeOf, effD, opD, putD, ofV, ofV1, D.cells, D.lay, D.one, condP, Exit.sel, Exit.blk, RetP, oneOf, resD, putAt, nilD, extrD, fillD, buildD, mapPutD, mapDelD, mapEntD, entPutD, newMapD, moveD, boundD, makeD, appendD, liveD, reduceCtorEq, if_true, if_false, ne_eq, ty_pt_49, ty_sz_82, ty_fd_82_1, ty_sz_77, ty_ag_77, ty_mu_77, ty_ma_77, Try.results29, kD])
    | with_reducible refine WP_block ?_
    | ((with_reducible refine WP_exit ?_); simp only [Exit.sel, Exit.blk, reduceIte, eq_self, Nat.reduceEqDiff, Nat.zero_ne_one, Nat.one_ne_zero])
    | ((with_reducible refine hrest _ ?_); clear hrest rest)
    | with_reducible refine WP_reg (fun _ => none) (fun _ => 0) (gamma0 _) ?_
    | with_reducible refine WP_draw (fun _ => none) (fun _ => 0) (gamma0 _) (by kernel_rfl) (by kernel_rfl) ?_
    | ((with_reducible refine ifP (fun _ => ?_) (fun _ => ?_)) <;> try (exfalso; omega))
    | (with_reducible refine And.intro ?_ ?_)
    | ((with_reducible refine (id ?_ : (_ : Nat) ≤ _)); omega))
  all_goals rfl

theorem len_calls {h : Heap} {c : Nat} {F : List Nat} {n : Int} {L : List Ent} (H : CaL h c F n L) :
    CallsA Try.prog 29 [.ptr c 0] h fun d h' => d = .int .i64 L.length ∧ h' = h := by
  obtain ⟨m, r, ids, en, H, rfl, rfl⟩ := H
  obtain ⟨mes, clock, pr, hm, h1, h2⟩ := H.mp
  have hc := H.hc
  have hl : mes.length = ids.length := by
    have := congrArg List.length h1
    simp only [List.length_map] at this
    rw [this, h2.length_eq, List.length_map]
  refine CallsA_body Try.func29 rfl en_29 ?_
  simp only [Try.ntmps29, List.length_cons, List.length_nil, List.replicate]
  repeat' (first
    | with_reducible refine WP_seq ?_
    | ((first | with_reducible refine WP_skip ?_ | with_reducible refine SQ_nil ?_); (first | simp only [Exit.sel, Exit.blk] | simp only [EV2, EVB, stepH, gdOf, modeOf, effD, opD, putD, ofV, ofV1, D.cells, D.lay, D.one, condP, Exit.sel, Exit.blk, RetP, oneOf, resD, putAt, nilD, extrD, fillD, buildD, mapPutD, mapDelD, mapEntD, entPutD, newMapD, moveD, boundD, makeD, appendD, liveD, reduceCtorEq, if_true, if_false, ne_eq, ty_pt_49, ty_sz_82, ty_fd_82_1, ty_sz_77, ty_ag_77, ty_mu_77, ty_ma_77, Try.results29, hc, hm, hl, kD]))
    | ((first | with_reducible refine WP_cond ?_ | with_reducible refine WP_ret ?_ | ((with_reducible refine SQr rfl ?_); intro rest hrest)); simp only [EV2, EVB, stepH, gdOf, modeOf, effD, opD, putD, ofV, ofV1, D.cells, D.lay, D.one, condP, Exit.sel, Exit.blk, RetP, oneOf, resD, putAt, nilD, extrD, fillD, buildD, mapPutD, mapDelD, mapEntD, entPutD, newMapD, moveD, boundD, makeD, appendD, liveD, reduceCtorEq, if_true, if_false, ne_eq, ty_pt_49, ty_sz_82, ty_fd_82_1, ty_sz_77, ty_ag_77, ty_mu_77, ty_ma_77, Try.results29, hc, hm, hl, kD])
    | with_reducible refine WP_block ?_
    | ((with_reducible refine WP_exit ?_); simp only [Exit.sel, Exit.blk, reduceIte, eq_self, Nat.reduceEqDiff, Nat.zero_ne_one, Nat.one_ne_zero])
    | ((with_reducible refine hrest _ ?_); clear hrest rest)
    | with_reducible refine WP_reg (fun _ => none) (fun _ => 0) (gamma0 _) ?_
    | with_reducible refine WP_draw (fun _ => none) (fun _ => 0) (gamma0 _) (by kernel_rfl) (by kernel_rfl) ?_
    | ((with_reducible refine ifP (fun _ => ?_) (fun _ => ?_)) <;> try (exfalso; omega))
    | (with_reducible refine And.intro ?_ ?_)
    | ((with_reducible refine (id ?_ : (_ : Nat) ≤ _)); omega))
  all_goals simp
end Go.Proofs.Ytcjndiagbdkikaa.B
