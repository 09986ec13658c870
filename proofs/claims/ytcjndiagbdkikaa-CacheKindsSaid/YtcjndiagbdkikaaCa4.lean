/- The whole cache: object, map, ring; and finding. No condition. -/
import Derived.Test.YtcjndiagbdkikaaCa3
set_option linter.unusedSimpArgs false
set_option linter.unusedVariables false
namespace Go.Proofs.Ytcjndiagbdkikaa.I

theorem keyEq_kD (a b : Key) : keyEq (kD a) (kD b) = (b == a) := by show (a == b) = (b == a); exact BEq.comm
theorem isK (t : TypeId) (h : kiD Try.prog t = some .i64) (k : Key) : isKeyD Try.prog t (kD k) = true := by simp [isKeyD, kD, h]

def pk (e : ME) : D × D := (e.key, e.val)
def pd (p : Key × Nat) : D × D := (kD p.1, .ptr p.2 0)

theorem findM_pr (k : Key) : ∀ (mes : List ME) (pr : List (Key × Nat)), mes.map pk = pr.map pd → (findM (kD k) mes).map (·.val) = (pr.find? fun p => p.1 == k).map fun p => .ptr p.2 0
  | [], [], _ => rfl
  | [], _ :: _, h => by simp at h
  | _ :: _, [], h => by simp at h
  | e :: mes, p :: pr, h => by
    simp only [List.map_cons, List.cons.injEq, pk, pd, Prod.mk.injEq] at h
    have ih := findM_pr k mes pr h.2
    simp only [findM] at ih ⊢
    by_cases hk : p.1 = k
    · simp [h.1.1, keyEq_kD, hk, h.1.2]
    · simp [h.1.1, keyEq_kD, hk, ih]

theorem putM_pr (k : Key) (x clock : Nat) : ∀ (mes : List ME) (pr : List (Key × Nat)), mes.map pk = pr.map pd → (∀ p ∈ pr, p.1 ≠ k) → (putM (kD k) (.ptr x 0) clock mes).1.map pk = (pr ++ [(k, x)]).map pd
  | [], [], _, _ => rfl
  | [], _ :: _, h, _ => by simp at h
  | _ :: _, [], h, _ => by simp at h
  | e :: mes, p :: pr, h, hn => by
    have hh := h
    simp only [List.map_cons, List.cons.injEq, pk, pd, Prod.mk.injEq] at h
    have hk : (p.1 == k) = false := by simpa using hn p (by simp)
    have ih := putM_pr k x clock mes pr h.2 (fun q hq => hn q (by simp [hq]))
    simp only [putM, h.1.1, keyEq_kD, hk, Bool.false_eq_true, if_false, List.map_cons, List.cons_append, ih]
    simp only [pk, pd, h.1.1, h.1.2]

theorem delM_pr (k : Key) : ∀ (mes : List ME) (pr : List (Key × Nat)), mes.map pk = pr.map pd → (delM (kD k) mes).map pk = (pr.eraseP fun p => p.1 == k).map pd
  | [], [], _ => rfl
  | [], _ :: _, h => by simp at h
  | _ :: _, [], h => by simp at h
  | e :: mes, p :: pr, h => by
    have hh := h
    simp only [List.map_cons, List.cons.injEq, pk, pd, Prod.mk.injEq] at h
    have ih := delM_pr k mes pr h.2
    by_cases hk : p.1 = k
    · simp [delM, h.1.1, keyEq_kD, hk]; exact h.2
    · have hk' : (p.1 == k) = false := by simpa using hk
      simp only [delM, h.1.1, keyEq_kD, hk', List.map_cons, ih, List.eraseP_cons, Bool.false_eq_true, if_false, cond_false]
      simp only [pk, pd, h.1.1, h.1.2]

theorem keysOk_pr (t : TypeId) (h : kiD Try.prog t = some .i64) : ∀ (mes : List ME) (pr : List (Key × Nat)), mes.map pk = pr.map pd → keysOk Try.prog t mes = true
  | [], _, _ => rfl
  | _ :: _, [], h => by simp at h
  | e :: mes, p :: pr, hh => by
    simp only [List.map_cons, List.cons.injEq, pk, pd, Prod.mk.injEq] at hh
    have ih := keysOk_pr t h mes pr hh.2
    simp only [keysOk, List.all_cons, Bool.and_eq_true] at ih ⊢
    exact ⟨by rw [hh.1.1]; exact isK t h p.1, ih⟩

/-- The map. -/
def Mp (h : Heap) (m : Nat) (ids : List Nat) (en : Nat → Ent) : Prop :=
  ∃ (mes : List ME) (clock : Nat) (pr : List (Key × Nat)), h m = some (.map mes clock) ∧ mes.map pk = pr.map pd ∧ pr.Perm (ids.map fun i => ((en i).key, i))

/-- The cache. -/
structure Ca (h : Heap) (c m r : Nat) (n : Int) (ids : List Nat) (en : Nat → Ent) : Prop where
  hc : h c = some (.cells [.int .i64 n, .mp m, .ptr r 0])
  mp : Mp h m ids en
  rg : ∃ pv nx, Rg h r ids en pv nx
  ky : (ids.map fun i => (en i).key).Nodup

def lk (k : Key) (ids : List Nat) (en : Nat → Ent) : Option Nat := ids.find? fun i => (en i).key == k

theorem lk_some {k : Key} {ids : List Nat} {en : Nat → Ent} {i : Nat} (h : lk k ids en = some i) : i ∈ ids ∧ (en i).key = k := ⟨List.mem_of_find?_eq_some h, by simpa using List.find?_some h⟩
theorem lk_none {k : Key} {ids : List Nat} {en : Nat → Ent} (h : lk k ids en = none) : ∀ i ∈ ids, (en i).key ≠ k := fun i hi e => by
  have := List.find?_eq_none.1 h i hi
  simp [e] at this
theorem key_inj {ids : List Nat} {en : Nat → Ent} (h : (ids.map fun i => (en i).key).Nodup) : ∀ {i j : Nat}, i ∈ ids → j ∈ ids → (en i).key = (en j).key → i = j := by
  induction ids with
  | nil => intro i j hi; simp at hi
  | cons a l ih =>
    intro i j hi hj e
    simp only [List.map_cons, List.nodup_cons, List.mem_map, not_exists, not_and] at h
    rcases List.mem_cons.1 hi with hi | hi <;> rcases List.mem_cons.1 hj with hj | hj
    · rw [hi, hj]
    · exact absurd (by rw [← e, hi]) (h.1 j hj)
    · exact absurd (by rw [e, hj]) (h.1 i hi)
    · exact ih h.2 hi hj e

theorem pr_find {k : Key} {ids : List Nat} {en : Nat → Ent} {pr : List (Key × Nat)} (hp : pr.Perm (ids.map fun i => ((en i).key, i))) (hk : (ids.map fun i => (en i).key).Nodup) :
    ((pr.find? fun p => p.1 == k).map fun p => D.ptr p.2 0) = (lk k ids en).map fun i => .ptr i 0 := by
  cases hl : lk k ids en with
  | none =>
    have := lk_none hl
    have h0 : (pr.find? fun p => p.1 == k) = none := by
      refine List.find?_eq_none.2 fun p hpm => ?_
      have := hp.mem_iff.1 hpm
      simp only [List.mem_map] at this
      obtain ⟨i, hi, rfl⟩ := this
      simpa using lk_none hl i hi
    rw [h0]; rfl
  | some i =>
    obtain ⟨hi, he⟩ := lk_some hl
    have hm : (k, i) ∈ pr := hp.mem_iff.2 (List.mem_map.2 ⟨i, hi, by rw [he]⟩)
    cases hf : pr.find? fun p => p.1 == k with
    | none => have := List.find?_eq_none.1 hf _ hm; simp at this
    | some p =>
      have h1 := List.mem_of_find?_eq_some hf
      have h2 : p.1 = k := by simpa using List.find?_some hf
      have := hp.mem_iff.1 h1
      simp only [List.mem_map] at this
      obtain ⟨j, hj, rfl⟩ := this
      have : j = i := key_inj hk hj hi (by rw [he]; exact h2)
      simp [this]

theorem Ca.ne {h : Heap} {c m r : Nat} {n : Int} {ids : List Nat} {en : Nat → Ent} (H : Ca h c m r n ids en) : c ∉ r :: ids ∧ m ∉ r :: ids ∧ c ≠ m := by
  obtain ⟨mes, clock, pr, hm, _⟩ := H.mp
  obtain ⟨pv, nx, R⟩ := H.rg
  refine ⟨fun e => ?_, fun e => ?_, fun e => ?_⟩
  · have := R.nd c e; rw [H.hc] at this; simp [nodeC, kC] at this
  · have := R.nd m e; rw [hm] at this; simp at this
  · have := H.hc; rw [e, hm] at this; simp at this

theorem find_nil (h : Heap) (k : Key) : CallsA Try.prog 36 [.nilp, kD k] h fun d h' => d = .nilp ∧ h' = h := by
  refine CallsA_body Try.func36 rfl en_36 ?_
  simp only [Try.ntmps36, List.length_cons, List.length_nil, List.replicate]
  repeat' (first
    | with_reducible refine WP_seq ?_
    | ((first | with_reducible refine WP_skip ?_ | with_reducible refine SQ_nil ?_); (first | simp only [Exit.sel, Exit.blk] | simp only [EV2, EVB, stepH, gdOf, modeOf, effD, opD, putD, ofV, ofV1, D.cells, D.lay, D.one, condP, Exit.sel, Exit.blk, RetP, oneOf, resD, putAt, nilD, extrD, fillD, buildD, mapPutD, mapDelD, mapEntD, entPutD, newMapD, moveD, boundD, makeD, appendD, liveD, reduceCtorEq, if_true, if_false, ne_eq, ty_pt_25, ty_sz_70, ty_fd_70_1, ty_sz_65, ty_ag_65, ty_ma_65, ty_zr_66, ty_ki_3, Try.results36]))
    | ((first | with_reducible refine WP_cond ?_ | with_reducible refine WP_ret ?_ | ((with_reducible refine SQr rfl ?_); intro rest hrest)); simp only [EV2, EVB, stepH, gdOf, modeOf, effD, opD, putD, ofV, ofV1, D.cells, D.lay, D.one, condP, Exit.sel, Exit.blk, RetP, oneOf, resD, putAt, nilD, extrD, fillD, buildD, mapPutD, mapDelD, mapEntD, entPutD, newMapD, moveD, boundD, makeD, appendD, liveD, reduceCtorEq, if_true, if_false, ne_eq, ty_pt_25, ty_sz_70, ty_fd_70_1, ty_sz_65, ty_ag_65, ty_ma_65, ty_zr_66, ty_ki_3, Try.results36])
    | with_reducible refine WP_block ?_
    | ((with_reducible refine WP_exit ?_); simp only [Exit.sel, Exit.blk, reduceIte, eq_self, Nat.reduceEqDiff, Nat.zero_ne_one, Nat.one_ne_zero])
    | ((with_reducible refine hrest _ ?_); clear hrest rest)
    | with_reducible refine WP_reg (fun _ => none) (fun _ => 0) (gamma0 _) ?_
    | with_reducible refine WP_draw (fun _ => none) (fun _ => 0) (gamma0 _) (by kernel_rfl) (by kernel_rfl) ?_
    | ((with_reducible refine ifP (fun _ => ?_) (fun _ => ?_)) <;> try (exfalso; omega))
    | (with_reducible refine And.intro ?_ ?_)
    | ((with_reducible refine (id ?_ : (_ : Nat) ≤ _)); omega))
  all_goals rfl

theorem find_calls {h : Heap} {c m r : Nat} {n : Int} {ids : List Nat} {en : Nat → Ent} (H : Ca h c m r n ids en) (k : Key) :
    CallsA Try.prog 36 [.ptr c 0, kD k] h fun d h' => d = ((lk k ids en).map fun i => .ptr i 0).getD .nilp ∧ h' = h := by
  obtain ⟨mes, clock, pr, hm, h1, h2⟩ := H.mp
  have hf := findM_pr k mes pr h1
  rw [pr_find h2 H.ky] at hf
  have hc := H.hc
  have hks := fun t ht => keysOk_pr t ht mes pr h1
  have hik := fun t ht => isK t ht k
  refine CallsA_body Try.func36 rfl en_36 ?_
  simp only [Try.ntmps36, List.length_cons, List.length_nil, List.replicate]
  repeat' (first
    | with_reducible refine WP_seq ?_
    | ((first | with_reducible refine WP_skip ?_ | with_reducible refine SQ_nil ?_); (first | simp only [Exit.sel, Exit.blk] | simp only [EV2, EVB, stepH, gdOf, modeOf, effD, opD, putD, ofV, ofV1, D.cells, D.lay, D.one, condP, Exit.sel, Exit.blk, RetP, oneOf, resD, putAt, nilD, extrD, fillD, buildD, mapPutD, mapDelD, mapEntD, entPutD, newMapD, moveD, boundD, makeD, appendD, liveD, reduceCtorEq, if_true, if_false, ne_eq, ty_pt_25, ty_sz_70, ty_fd_70_1, ty_sz_65, ty_ag_65, ty_ma_65, ty_zr_66, ty_ki_3, Try.results36, hc, lookD, entriesOf, hm, hks, hik, hf]))
    | ((first | with_reducible refine WP_cond ?_ | with_reducible refine WP_ret ?_ | ((with_reducible refine SQr rfl ?_); intro rest hrest)); simp only [EV2, EVB, stepH, gdOf, modeOf, effD, opD, putD, ofV, ofV1, D.cells, D.lay, D.one, condP, Exit.sel, Exit.blk, RetP, oneOf, resD, putAt, nilD, extrD, fillD, buildD, mapPutD, mapDelD, mapEntD, entPutD, newMapD, moveD, boundD, makeD, appendD, liveD, reduceCtorEq, if_true, if_false, ne_eq, ty_pt_25, ty_sz_70, ty_fd_70_1, ty_sz_65, ty_ag_65, ty_ma_65, ty_zr_66, ty_ki_3, Try.results36, hc, lookD, entriesOf, hm, hks, hik, hf])
    | with_reducible refine WP_block ?_
    | ((with_reducible refine WP_exit ?_); simp only [Exit.sel, Exit.blk, reduceIte, eq_self, Nat.reduceEqDiff, Nat.zero_ne_one, Nat.one_ne_zero])
    | ((with_reducible refine hrest _ ?_); clear hrest rest)
    | with_reducible refine WP_reg (fun _ => none) (fun _ => 0) (gamma0 _) ?_
    | with_reducible refine WP_draw (fun _ => none) (fun _ => 0) (gamma0 _) (by kernel_rfl) (by kernel_rfl) ?_
    | ((with_reducible refine ifP (fun _ => ?_) (fun _ => ?_)) <;> try (exfalso; omega))
    | (with_reducible refine And.intro ?_ ?_)
    | ((with_reducible refine (id ?_ : (_ : Nat) ≤ _)); omega))
  all_goals rfl
end Go.Proofs.Ytcjndiagbdkikaa.I
