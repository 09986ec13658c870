/- Taking an entry out of the ring, and putting it at the end. No condition. -/
import Derived.Test.YtcjndiagbdkikaaTy
import Derived.Test.YtcjndiagbdkikaaCaG
set_option linter.unusedSimpArgs false
set_option linter.unusedVariables false
namespace Go.Proofs.Ytcjndiagbdkikaa.I

abbrev Key := Int
abbrev Val := Int
def kD (k : Key) : D := .int .i64 k
def kC (k : Key) : List D := [.int .i64 k]
def vD (v : Val) : D := .int .i64 v
def kz : Key := 0
def vz : Val := 0

structure Ent where
  key : Key
  val : Val
  dirty : Bool
  pins : Int
  deriving DecidableEq

def nodeC (e : Ent) (a b : Nat) : List D := kC e.key ++ [vD e.val, .bool e.dirty, .int .i64 e.pins, .ptr a 0, .ptr b 0]

def Nd (h : Heap) (N : List Nat) (en : Nat → Ent) (pv nx : Nat → Nat) : Prop := ∀ y ∈ N, h y = some (.cells (nodeC (en y) (pv y) (nx y)))

theorem Nd_fn {h h' : Heap} {N : List Nat} {en en' : Nat → Ent} {pv nx pv' nx' : Nat → Nat} (hN : Nd h N en pv nx)
    (hh : ∀ y ∈ N, h' y = h y ∧ en' y = en y ∧ pv' y = pv y ∧ nx' y = nx y ∨ h' y = some (.cells (nodeC (en' y) (pv' y) (nx' y)))) : Nd h' N en' pv' nx' := by
  intro y hy
  rcases hh y hy with ⟨h1, h2, h3, h4⟩ | h1
  · rw [h1, h2, h3, h4]; exact hN y hy
  · exact h1

theorem out_new (h : Heap) (x : Nat) (e : Ent) (hx : h x = some (.cells (kC e.key ++ [vD e.val, .bool e.dirty, .int .i64 e.pins, .nilp, .nilp]))) : CallsA Try.prog 48 [.ptr x 0] h fun _ h' => h' = h := by
  refine CallsA_body Try.func48 rfl en_48 ?_
  simp only [Try.ntmps48, List.length_cons, List.length_nil, List.replicate]
  repeat' (first
    | with_reducible refine WP_seq ?_
    | ((first | with_reducible refine WP_skip ?_ | with_reducible refine SQ_nil ?_); (first | simp only [Exit.sel, Exit.blk] | simp only [EV2, EVB, stepH, gdOf, modeOf, effD, opD, putD, ofV, ofV1, D.cells, D.lay, D.one, condP, Exit.sel, Exit.blk, RetP, oneOf, resD, putAt, nilD, extrD, fillD, buildD, mapPutD, mapDelD, mapEntD, entPutD, newMapD, moveD, boundD, makeD, appendD, liveD, reduceCtorEq, if_true, if_false, ne_eq, ty_fd_68_4, ty_sz_66, ty_ag_66, ty_pt_66, ty_sz_68, ty_fd_68_5, Try.results48, hx, kC, vD]))
    | ((first | with_reducible refine WP_cond ?_ | with_reducible refine WP_ret ?_ | ((with_reducible refine SQr rfl ?_); intro rest hrest)); simp only [EV2, EVB, stepH, gdOf, modeOf, effD, opD, putD, ofV, ofV1, D.cells, D.lay, D.one, condP, Exit.sel, Exit.blk, RetP, oneOf, resD, putAt, nilD, extrD, fillD, buildD, mapPutD, mapDelD, mapEntD, entPutD, newMapD, moveD, boundD, makeD, appendD, liveD, reduceCtorEq, if_true, if_false, ne_eq, ty_fd_68_4, ty_sz_66, ty_ag_66, ty_pt_66, ty_sz_68, ty_fd_68_5, Try.results48, hx, kC, vD])
    | with_reducible refine WP_block ?_
    | ((with_reducible refine WP_exit ?_); simp only [Exit.sel, Exit.blk, reduceIte, eq_self, Nat.reduceEqDiff, Nat.zero_ne_one, Nat.one_ne_zero])
    | ((with_reducible refine hrest _ ?_); clear hrest rest)
    | with_reducible refine WP_reg (fun _ => none) (fun _ => 0) (gamma0 _) ?_
    | with_reducible refine WP_draw (fun _ => none) (fun _ => 0) (gamma0 _) (by kernel_rfl) (by kernel_rfl) ?_
    | ((with_reducible refine ifP (fun _ => ?_) (fun _ => ?_)) <;> try (exfalso; omega))
    | (with_reducible refine And.intro ?_ ?_)
    | ((with_reducible refine (id ?_ : (_ : Nat) ≤ _)); omega))

theorem out_calls (h : Heap) (N : List Nat) (en : Nat → Ent) (pv nx : Nat → Nat) (x : Nat) (hN : Nd h N en pv nx) (hx : x ∈ N) (hp : pv x ∈ N) (hs : nx x ∈ N) (hpx : pv x ≠ x) (hsx : nx x ≠ x) :
    CallsA Try.prog 48 [.ptr x 0] h fun _ h' => Nd h' N en (fupd pv (nx x) (pv x)) (fupd nx (pv x) (nx x)) ∧ ∀ i, i ∉ N → h' i = h i := by
  refine CallsA_body Try.func48 rfl en_48 ?_
  simp only [Try.ntmps48, List.length_cons, List.length_nil, List.replicate]
  have hx' := hN x hx
  have hp' := hN _ hp
  have hs' := hN _ hs
  by_cases hps : nx x = pv x
  · repeat' (first
    | with_reducible refine WP_seq ?_
    | ((first | with_reducible refine WP_skip ?_ | with_reducible refine SQ_nil ?_); (first | simp only [Exit.sel, Exit.blk] | simp only [EV2, EVB, stepH, gdOf, modeOf, effD, opD, putD, ofV, ofV1, D.cells, D.lay, D.one, condP, Exit.sel, Exit.blk, RetP, oneOf, resD, putAt, nilD, extrD, fillD, buildD, mapPutD, mapDelD, mapEntD, entPutD, newMapD, moveD, boundD, makeD, appendD, liveD, reduceCtorEq, if_true, if_false, ne_eq, ty_fd_68_4, ty_sz_66, ty_ag_66, ty_pt_66, ty_sz_68, ty_fd_68_5, Try.results48, hx', hp', nodeC, kC, vD, hps]))
    | ((first | with_reducible refine WP_cond ?_ | with_reducible refine WP_ret ?_ | ((with_reducible refine SQr rfl ?_); intro rest hrest)); simp only [EV2, EVB, stepH, gdOf, modeOf, effD, opD, putD, ofV, ofV1, D.cells, D.lay, D.one, condP, Exit.sel, Exit.blk, RetP, oneOf, resD, putAt, nilD, extrD, fillD, buildD, mapPutD, mapDelD, mapEntD, entPutD, newMapD, moveD, boundD, makeD, appendD, liveD, reduceCtorEq, if_true, if_false, ne_eq, ty_fd_68_4, ty_sz_66, ty_ag_66, ty_pt_66, ty_sz_68, ty_fd_68_5, Try.results48, hx', hp', nodeC, kC, vD, hps])
    | with_reducible refine WP_block ?_
    | ((with_reducible refine WP_exit ?_); simp only [Exit.sel, Exit.blk, reduceIte, eq_self, Nat.reduceEqDiff, Nat.zero_ne_one, Nat.one_ne_zero])
    | ((with_reducible refine hrest _ ?_); clear hrest rest)
    | with_reducible refine WP_reg (fun _ => none) (fun _ => 0) (gamma0 _) ?_
    | with_reducible refine WP_draw (fun _ => none) (fun _ => 0) (gamma0 _) (by kernel_rfl) (by kernel_rfl) ?_
    | ((with_reducible refine ifP (fun _ => ?_) (fun _ => ?_)) <;> try (exfalso; omega))
    | (with_reducible refine And.intro ?_ ?_)
    | ((with_reducible refine (id ?_ : (_ : Nat) ≤ _)); omega))
    · refine Nd_fn hN fun y hy => ?_
      by_cases h1 : y = pv x
      · right; simp [h1, Heap.upd, fupd, nodeC, kC, vD]
      · left; simp [h1, Heap.upd, fupd]
    · intro i hi
      rw [Heap.upd_ne _ _ (fun e => hi (by rw [e]; exact hp)), Heap.upd_ne _ _ (fun e => hi (by rw [e]; exact hp))]
  · repeat' (first
    | with_reducible refine WP_seq ?_
    | ((first | with_reducible refine WP_skip ?_ | with_reducible refine SQ_nil ?_); (first | simp only [Exit.sel, Exit.blk] | simp only [EV2, EVB, stepH, gdOf, modeOf, effD, opD, putD, ofV, ofV1, D.cells, D.lay, D.one, condP, Exit.sel, Exit.blk, RetP, oneOf, resD, putAt, nilD, extrD, fillD, buildD, mapPutD, mapDelD, mapEntD, entPutD, newMapD, moveD, boundD, makeD, appendD, liveD, reduceCtorEq, if_true, if_false, ne_eq, ty_fd_68_4, ty_sz_66, ty_ag_66, ty_pt_66, ty_sz_68, ty_fd_68_5, Try.results48, hx', hp', hs', nodeC, kC, vD, Heap.upd_ne, hps]))
    | ((first | with_reducible refine WP_cond ?_ | with_reducible refine WP_ret ?_ | ((with_reducible refine SQr rfl ?_); intro rest hrest)); simp only [EV2, EVB, stepH, gdOf, modeOf, effD, opD, putD, ofV, ofV1, D.cells, D.lay, D.one, condP, Exit.sel, Exit.blk, RetP, oneOf, resD, putAt, nilD, extrD, fillD, buildD, mapPutD, mapDelD, mapEntD, entPutD, newMapD, moveD, boundD, makeD, appendD, liveD, reduceCtorEq, if_true, if_false, ne_eq, ty_fd_68_4, ty_sz_66, ty_ag_66, ty_pt_66, ty_sz_68, ty_fd_68_5, Try.results48, hx', hp', hs', nodeC, kC, vD, Heap.upd_ne, hps])
    | with_reducible refine WP_block ?_
    | ((with_reducible refine WP_exit ?_); simp only [Exit.sel, Exit.blk, reduceIte, eq_self, Nat.reduceEqDiff, Nat.zero_ne_one, Nat.one_ne_zero])
    | ((with_reducible refine hrest _ ?_); clear hrest rest)
    | with_reducible refine WP_reg (fun _ => none) (fun _ => 0) (gamma0 _) ?_
    | with_reducible refine WP_draw (fun _ => none) (fun _ => 0) (gamma0 _) (by kernel_rfl) (by kernel_rfl) ?_
    | ((with_reducible refine ifP (fun _ => ?_) (fun _ => ?_)) <;> try (exfalso; omega))
    | (with_reducible refine And.intro ?_ ?_)
    | ((with_reducible refine (id ?_ : (_ : Nat) ≤ _)); omega))
    · refine Nd_fn hN fun y hy => ?_
      by_cases h1 : y = pv x
      · right; have : pv x ≠ nx x := fun e => hps e.symm
        simp [h1, Heap.upd, fupd, nodeC, kC, vD, this]
      · by_cases h2 : y = nx x
        · right; simp [h2, Heap.upd, fupd, nodeC, kC, vD, hps]
        · left; simp [h1, h2, Heap.upd, fupd]
    · intro i hi
      rw [Heap.upd_ne _ _ (fun e => hi (by rw [e]; exact hs)), Heap.upd_ne _ _ (fun e => hi (by rw [e]; exact hp))]

/-- The ring. -/
structure Rg (h : Heap) (r : Nat) (ids : List Nat) (en : Nat → Ent) (pv nx : Nat → Nat) : Prop where
  nd : Nd h (r :: ids) en pv nx
  ch : Chain pv nx r ids r
  un : (r :: ids).Nodup

theorem nodup_mid {r x : Nat} {l1 l2 : List Nat} (h : (r :: (l1 ++ x :: l2)).Nodup) : (r :: (l1 ++ l2)).Nodup ∧ x ∉ r :: (l1 ++ l2) := by
  have hp : (r :: (l1 ++ x :: l2)).Perm (x :: r :: (l1 ++ l2)) := (List.Perm.cons r List.perm_middle).trans (List.Perm.swap x r _)
  have := (hp.nodup_iff).1 h
  exact ⟨(List.nodup_cons.1 this).2, (List.nodup_cons.1 this).1⟩

theorem Rg.links {h : Heap} {r : Nat} {ids : List Nat} {en : Nat → Ent} {pv nx : Nat → Nat} (H : Rg h r ids en pv nx) {x : Nat} (hx : x ∈ ids) :
    pv x ∈ r :: ids ∧ nx x ∈ r :: ids ∧ pv x ≠ x ∧ nx x ≠ x := by
  obtain ⟨l1, l2, rfl⟩ := List.append_of_mem hx
  obtain ⟨h1, h2⟩ := nodup_mid H.un
  have c := H.ch.split
  have a := c.1.pv_mem
  have b := c.2.nx_mem
  simp only [List.mem_cons, List.mem_append, List.not_mem_nil, or_false, not_or] at a b h2 ⊢
  refine ⟨?_, ?_, fun e => ?_, fun e => ?_⟩
  · rcases a with a | a <;> simp [a]
  · rcases b with b | b <;> simp [b]
  · rw [e] at a; rcases a with a | a
    · exact h2.1 a
    · exact h2.2.1 a
  · rw [e] at b; rcases b with b | b
    · exact h2.2.2 b
    · exact h2.1 b

theorem Rg.out {h h' : Heap} {r : Nat} {ids : List Nat} {en : Nat → Ent} {pv nx : Nat → Nat} (H : Rg h r ids en pv nx) {x : Nat} (hx : x ∈ ids) (hn : Nd h' (r :: ids) en (fupd pv (nx x) (pv x)) (fupd nx (pv x) (nx x))) :
    Rg h' r (ids.erase x) en (fupd pv (nx x) (pv x)) (fupd nx (pv x) (nx x)) ∧ x ∉ r :: ids.erase x := by
  obtain ⟨l1, l2, h0, hl, he⟩ := List.exists_erase_eq hx
  rw [he]
  subst hl
  obtain ⟨h1, h2⟩ := nodup_mid H.un
  refine ⟨⟨fun y hy => hn y ?_, H.ch.out H.un (List.nodup_cons.1 H.un).1, h1⟩, h2⟩
  simp only [List.mem_cons, List.mem_append] at hy ⊢
  rcases hy with h | h | h <;> simp [h]

/-- A ring with an entry put at its end. -/
theorem Rg.add {h h' : Heap} {r : Nat} {ids : List Nat} {en en' : Nat → Ent} {pv nx : Nat → Nat} (H : Rg h r ids en pv nx) {x : Nat} (hx : x ∉ r :: ids) (he : ∀ i ∈ r :: ids, en' i = en i)
    (h0 : ∀ i ∈ ids, i ≠ pv r → h' i = h i) (h1 : h' x = some (.cells (nodeC (en' x) (pv r) r)))
    (h2 : pv r ≠ r → h' (pv r) = some (.cells (nodeC (en' (pv r)) (pv (pv r)) x)) ∧ h' r = some (.cells (nodeC (en' r) x (nx r))))
    (h3 : pv r = r → h' r = some (.cells (nodeC (en' r) x x))) :
    Rg h' r (ids ++ [x]) en' (fupd (fupd pv x (pv r)) r x) (fupd (fupd nx x r) (pv r) x) := by
  have hxr : x ≠ r := fun e => hx (by simp [e])
  have hrx : r ≠ x := fun e => hxr e.symm
  have hpm : pv r ∈ r :: ids := H.ch.pv_mem
  have hpx : x ≠ pv r := fun e => hx (by rw [e]; exact hpm)
  refine ⟨fun y hy => ?_, H.ch.add H.un (List.nodup_cons.1 H.un).1 hx hxr, ?_⟩
  · by_cases hyx : y = x
    · subst hyx; rw [h1]; simp [fupd, hpx, hxr]
    · by_cases hpr : pv r = r
      · by_cases hyr : y = r
        · subst hyr; rw [h3 hpr]; simp [fupd, hpr]
        · have hm : y ∈ ids := by simpa [hyr, hyx] using hy
          rw [h0 y hm (by rw [hpr]; exact hyr), H.nd y (by simp [hm]), he y (by simp [hm])]
          simp [fupd, hyx, hyr, hpr]
      · obtain ⟨h4, h5⟩ := h2 hpr
        by_cases hyp : y = pv r
        · subst hyp; rw [h4]; simp [fupd, hpr, hpx.symm]
        · by_cases hyr : y = r
          · subst hyr; have hyy : y ≠ pv y := fun e => hpr e.symm
            rw [h5]; simp [fupd, hrx, hyy]
          · have hm : y ∈ ids := by simpa [hyr, hyx] using hy
            rw [h0 y hm hyp, H.nd y (by simp [hm]), he y (by simp [hm])]
            simp [fupd, hyx, hyr, hyp]
  · have hu := List.nodup_cons.1 H.un
    simp only [List.mem_cons, not_or] at hx
    refine List.nodup_cons.2 ⟨by simp [hu.1, hrx], List.nodup_append.2 ⟨hu.2, by simp, fun a ha b hb e => ?_⟩⟩
    simp at hb; subst hb; subst e; exact hx.2 ha
end Go.Proofs.Ytcjndiagbdkikaa.I
