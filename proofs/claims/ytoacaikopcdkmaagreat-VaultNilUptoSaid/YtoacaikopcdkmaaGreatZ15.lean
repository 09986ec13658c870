/- Maps whose keys are numbers, as lists of key and value. No condition. -/
import Derived.Test.YtoacaikopcdkmaaGreatZ04
import Derived.Maps.OwnSet
import Derived.Maps.RangeRun
set_option linter.unusedSimpArgs false
set_option linter.unusedVariables false
namespace Go.Proofs.YtoacaikopcdkmaaGreat
open Go.RowKit Go.Sort Go.MapKept Go.Maps Go.WideElems Go.ChangeMaps
def kV (k : Nat) : Value := Value.int .i64 (k : Int)
structure EsOf (es : Array MapEntry) (clock : Nat) (L : List (Nat × Value)) : Prop where
  st : Stamped es clock
  eq : es.toList.map (fun e => (e.key, e.val)) = L.map fun p => (kV p.1, p.2)
  lt : ∀ p ∈ L, p.1 < 4611686018427387904
/-- The map in block m holds L, in the order in which the keys were laid in. -/
def MapB (w : World) (m : Nat) (L : List (Nat × Value)) : Prop := ∃ es clock, w.heap[m]? = some (.map es clock) ∧ EsOf es clock L
def lookM (k : Nat) (L : List (Nat × Value)) : Option Value := (L.find? fun p => p.1 == k).map (·.2)
def putM (k : Nat) (v : Value) (L : List (Nat × Value)) : List (Nat × Value) := if (lookM k L).isSome then L.map (fun p => if p.1 = k then (k, v) else p) else L ++ [(k, v)]
def delM (k : Nat) (L : List (Nat × Value)) : List (Nat × Value) := L.filter fun p => p.1 != k
theorem kV_inj {a b : Nat} (h : kV a = kV b) : a = b := by
  unfold kV at h; injection h with _ h; omega
theorem kV_key {P : Program} {kt : TypeId} (hk : P.underlying kt = some (.int .i64)) {k : Nat} (h : k < 4611686018427387904) : keyOf P kt (kV k) = some (.int .i64 (k : Int)) := by
  refine keyOf_int_mk hk ?_
  have e1 : IntKind.i64.min = -9223372036854775808 := rfl
  have e2 : IntKind.i64.max = 9223372036854775807 := rfl
  show (decide (IntKind.i64.min ≤ (k : Int)) && decide ((k : Int) ≤ IntKind.i64.max)) = true
  rw [e1, e2, Bool.and_eq_true, decide_eq_true_eq, decide_eq_true_eq]
  omega
theorem EsOf.keys {es clock L} (H : EsOf es clock L) : (L.map (·.1)).Nodup := by
  have h1 : es.toList.map (·.key) = L.map fun p => kV p.1 := by
    have := congrArg (List.map Prod.fst) H.eq
    simpa [List.map_map, Function.comp_def] using this
  have h2 : (L.map fun p => kV p.1).Nodup := h1 ▸ H.st.2.2
  have h3 : ((L.map (·.1)).map kV).Nodup := by rw [List.map_map]; exact h2
  exact List.Pairwise.of_map kV (fun a b h e => h (by rw [e])) h3
theorem EsOf.get {es clock L} (H : EsOf es clock L) {j : Nat} {e0 : MapEntry} (h : es.toList[j]? = some e0) : ∃ p, L[j]? = some p ∧ e0.key = kV p.1 ∧ e0.val = p.2 := by
  have h1 : (es.toList.map (fun e => (e.key, e.val)))[j]? = some (e0.key, e0.val) := by rw [List.getElem?_map, h]; rfl
  rw [H.eq, List.getElem?_map] at h1
  cases hp : L[j]? with
  | none => rw [hp] at h1; simp at h1
  | some p => rw [hp] at h1; simp at h1; exact ⟨p, rfl, h1.1.symm, h1.2.symm⟩
theorem EsOf.mem {es clock L} (H : EsOf es clock L) {p : Nat × Value} (h : p ∈ L) : ∃ e ∈ es.toList, e.key = kV p.1 ∧ e.val = p.2 := by
  have h1 : (kV p.1, p.2) ∈ L.map fun p => (kV p.1, p.2) := List.mem_map.2 ⟨p, h, rfl⟩
  rw [← H.eq] at h1
  obtain ⟨e, he, h2⟩ := List.mem_map.1 h1
  injection h2 with h2 h3
  exact ⟨e, he, h2, h3⟩
theorem look_at {L : List (Nat × Value)} (hn : (L.map (·.1)).Nodup) {j : Nat} {p : Nat × Value} (h : L[j]? = some p) : lookM p.1 L = some p.2 := by
  induction L generalizing j with
  | nil => simp at h
  | cons q L ih =>
    rw [List.map_cons, List.nodup_cons] at hn
    unfold lookM
    cases j with
    | zero => simp at h; subst h; simp
    | succ j =>
      rw [List.getElem?_cons_succ] at h
      have hne : q.1 ≠ p.1 := fun e => hn.1 (e ▸ List.mem_map.2 ⟨p, List.mem_of_getElem? h, rfl⟩)
      rw [List.find?_cons_of_neg (by simpa using hne)]
      exact ih hn.2 h
theorem look_none {L : List (Nat × Value)} {k : Nat} (h : ∀ p ∈ L, p.1 ≠ k) : lookM k L = none := by
  unfold lookM
  rw [List.find?_eq_none.2 (fun p hp => by simpa using h p hp)]; rfl
section
variable {P : Program} {t kt et : TypeId} (ht : P.underlying t = some (.map kt et)) (hk : P.underlying kt = some (.int .i64))
include ht hk
theorem mfind (w : World) {es clock L} (H : EsOf es clock L) {k : Nat} (h : k < 4611686018427387904) :
    ((Instr.findKey kt (kV k) es.toList).run P w = .ok none w ∧ (∀ e ∈ es.toList, e.key ≠ kV k) ∧ lookM k L = none) ∨
    ∃ j e0, (Instr.findKey kt (kV k) es.toList).run P w = .ok (some (j, e0.val)) w ∧ es.toList[j]? = some e0 ∧ e0.key = kV k ∧ L[j]? = some (k, e0.val) ∧ lookM k L = some e0.val := by
  have _h0 := ht
  have hall : ∀ e ∈ es.toList, ∃ l, keyOf P kt e.key = some l := fun e he => by
    obtain ⟨j, hj⟩ := List.mem_iff_getElem?.1 he
    obtain ⟨p, h1, h2, h3⟩ := H.get hj
    exact ⟨_, by rw [h2]; exact kV_key hk (H.lt p (List.mem_of_getElem? h1))⟩
  rcases (int_keyed hk).find w (kV_key hk h) es.toList hall with ⟨h1, h2⟩ | ⟨j, e0, h1, h2, h3⟩
  · refine .inl ⟨h1, h2, look_none fun p hp e => ?_⟩
    obtain ⟨x, hx, h4, h5⟩ := H.mem hp
    exact h2 x hx (by rw [h4, e])
  · obtain ⟨p, h4, h5, h6⟩ := H.get h2
    have hp : p = (k, e0.val) := by
      have : p.1 = k := kV_inj (h5.symm.trans h3)
      cases p; simp only at this h6; rw [this, h6]
    subst hp
    exact .inr ⟨j, e0, h1, h2, h3, h4, look_at H.keys h4⟩
theorem run_mlook {w : World} {z : Value} (hz : (zeroValue et).run P w = .ok z w) {m : Nat} {L} (H : MapB w m L) {k : Nat} (h : k < 4611686018427387904) :
    (Instr.lookup t (.map (some m)) (kV k) false).run P w = .ok ((lookM k L).getD z) w := by
  obtain ⟨es, clock, hb, H⟩ := H
  rcases mfind ht hk w H h with ⟨h1, h2, h3⟩ | ⟨j, e0, h1, h2, h3, h4, h5⟩
  · simp [Instr.lookup, run_underlying ht, MapKept.run_getObj_map hb, (int_keyed hk).check w _ (kV_key hk h), h1, hz, h3, Result.andThen]
  · simp [Instr.lookup, run_underlying ht, MapKept.run_getObj_map hb, (int_keyed hk).check w _ (kV_key hk h), h1, h5, Result.andThen]
theorem run_mput {w : World} {m : Nat} {L} (H : MapB w m L) {k : Nat} (h : k < 4611686018427387904) (v : Value) :
    ∃ o, (Instr.mapUpdate t (.map (some m)) (kV k) v).run P w = .ok () (setBlock w m o) ∧ MapB (setBlock w m o) m (putM k v L) := by
  obtain ⟨es, clock, hb, H⟩ := H
  have hn := H.keys
  rcases mfind ht hk w H h with ⟨h1, h2, h3⟩ | ⟨j, e0, h1, h2, h3, h4, h5⟩
  · refine ⟨.map (es.push ⟨kV k, v, clock⟩) (clock + 1), ?_, _, _, heap_setBlock_same hb _, ?_⟩
    · simp [Instr.mapUpdate, run_underlying ht, MapKept.run_getObj_map hb, (int_keyed hk).check w false (kV_key hk h), h1, MapKept.run_setObj_map _ hb, Result.andThen, setBlock]
    · unfold putM
      rw [h3, if_neg (by simp)]
      refine ⟨stamped_push H.st h2, ?_, fun p hp => ?_⟩
      · rw [Array.toList_push, List.map_append, List.map_append, H.eq]; rfl
      · rcases List.mem_append.1 hp with hp | hp
        · exact H.lt p hp
        · rw [List.mem_singleton.1 hp]; exact h
  · have hj : es[j]? = some e0 := by simpa using h2
    have hkeyf : ∀ e', es[j]? = some e' → ({ e' with key := kV k, val := v } : MapEntry).key = e'.key := fun e' he' => by rw [hj] at he'; cases he'; exact h3.symm
    have hlist : (es.modify j (fun e' => { e' with key := kV k, val := v })).toList = es.toList.set j { e0 with key := kV k, val := v } := by rw [Array.toList_modify, modify_eq_set _ _ _ _ h2]
    refine ⟨.map (es.modify j fun e' => { e' with key := kV k, val := v }) clock, ?_, _, _, heap_setBlock_same hb _, ?_⟩
    · simp [Instr.mapUpdate, run_underlying ht, MapKept.run_getObj_map hb, (int_keyed hk).check w false (kV_key hk h), h1, hj, h3, (int_keyed hk).stays w (kV_key hk h), MapKept.run_setObj_map _ hb, Result.andThen, setBlock]
    · have hput : putM k v L = L.set j (k, v) := by
        unfold putM
        rw [h5, if_pos (show (some e0.val).isSome = true from rfl)]
        obtain ⟨hjl, ej⟩ := List.getElem?_eq_some_iff.1 h4
        apply List.ext_getElem
        · simp
        · intro i i1 i2
          rw [List.getElem_map, List.getElem_set]
          have i1' : i < L.length := by simpa using i1
          by_cases hij : j = i
          · subst hij; rw [if_pos (by rw [ej]), if_pos rfl]
          · rw [if_neg hij, if_neg]
            intro e
            have h7 : (L.map (·.1))[i]'(by simpa using i1') = (L.map (·.1))[j]'(by simpa using hjl) := by
              rw [List.getElem_map, List.getElem_map, e, ej]
            exact hij ((List.getElem_inj hn).1 h7).symm
      rw [hput]
      refine ⟨stamped_modify H.st _ _ (fun _ _ => rfl) (fun e' _ he' => hkeyf e' he'), ?_, fun p hp => ?_⟩
      · rw [hlist, List.map_set, List.map_set, H.eq]
      · rcases List.mem_or_eq_of_mem_set hp with hp | rfl
        · exact H.lt p hp
        · exact h
theorem run_mdel {w : World} {m : Nat} {L} (H : MapB w m L) {k : Nat} (h : k < 4611686018427387904) (ty : TypeId) :
    ∃ o, (Builtin.delete_ #[t, kt] ty #[.map (some m), kV k]).run P w = .ok (.tuple #[]) (setBlock w m o) ∧ MapB (setBlock w m o) m (delM k L) := by
  obtain ⟨es, clock, hb, H⟩ := H
  have hn := H.keys
  rcases mfind ht hk w H h with ⟨h1, h2, h3⟩ | ⟨j, e0, h1, h2, h3, h4, h5⟩
  · refine ⟨.map es clock, ?_, _, _, heap_setBlock_same hb _, ?_⟩
    · simp [Builtin.delete_, run_underlying ht, MapKept.run_getObj_map hb, (int_keyed hk).check w _ (kV_key hk h), h1, MapKept.run_setObj_map _ hb, Result.andThen, setBlock]
    · have : delM k L = L := by
        unfold delM
        rw [List.filter_eq_self]
        intro p hp
        obtain ⟨e, he, h4, _⟩ := H.mem hp
        have : p.1 ≠ k := fun e1 => h2 e he (by rw [h4, e1])
        simpa using this
      rw [this]; exact H
  · have hjl : j < es.toList.length := (List.getElem?_eq_some_iff.1 h2).1
    have hjs : j < es.size := by simpa using hjl
    have hsub : (es.eraseIdxIfInBounds j).toList = es.toList.eraseIdx j := by
      unfold Array.eraseIdxIfInBounds
      rw [dif_pos hjs]
      simp
    refine ⟨.map (es.eraseIdxIfInBounds j) clock, ?_, _, _, heap_setBlock_same hb _, ?_⟩
    · simp [Builtin.delete_, run_underlying ht, MapKept.run_getObj_map hb, (int_keyed hk).check w _ (kV_key hk h), h1, MapKept.run_setObj_map _ hb, Result.andThen, setBlock]
    · have hdel : delM k L = L.eraseIdx j := by
        unfold delM
        clear h1 h2 h3 h5 H hb hjl hjs hsub
        induction L generalizing j with
        | nil => simp at h4
        | cons q L ih =>
          rw [List.map_cons, List.nodup_cons] at hn
          cases j with
          | zero =>
            simp at h4
            subst h4
            rw [List.filter_cons_of_neg (by simp)]
            simp only [List.eraseIdx_zero, List.tail_cons]
            rw [List.filter_eq_self]
            intro p hp
            have : p.1 ≠ k := fun e => hn.1 (List.mem_map.2 ⟨p, hp, e⟩)
            simpa using this
          | succ j =>
            rw [List.getElem?_cons_succ] at h4
            have hne : q.1 ≠ k := fun e => hn.1 (List.mem_map.2 ⟨_, List.mem_of_getElem? h4, e.symm⟩)
            rw [List.filter_cons_of_pos (by simpa using hne), List.eraseIdx_cons_succ, ih hn.2 j h4]
      rw [hdel]
      refine ⟨stamped_erase H.st j, ?_, fun p hp => H.lt p ((List.eraseIdx_sublist _ _).subset hp)⟩
      rw [hsub, map_eraseIdx, H.eq, map_eraseIdx]
omit hk in
theorem run_mlen {w : World} {m : Nat} {L} (H : MapB w m L) (ty : TypeId) : (Builtin.len_ #[t] ty #[.map (some m)]).run P w = .ok (.int .i64 (L.length : Int)) w := by
  obtain ⟨es, clock, hb, H⟩ := H
  have e1 : es.size = L.length := by have := congrArg List.length H.eq; simpa using this
  rw [← e1]
  simp [Builtin.len_, run_underlying ht, MapKept.run_getObj_map hb, goInt, Result.andThen]
end
section
variable {P : Program} (w : World) {ops : Array Oper} {rest : List Oper} {o : Oper} {a : Act} {Q : Exit → Act → World → Prop}
theorem wpList_mput (hg : o.guard = none) (m x v : Operand) (t : TypeId) (hop : o.op = Op.mapUpdate t m x v) (kt et : TypeId) (ht : P.underlying t = some (.map kt et)) (hk : P.underlying kt = some (.int .i64))
    (b : Nat) (L : List (Nat × Value)) (hm : a.eval m = .map (some b)) (H : MapB w b L) (k : Nat) (h : k < 4611686018427387904) (hx : a.eval x = kV k) (val : Value) (hv : a.eval v = val)
    (hK : ∀ ob, MapB (setBlock w b ob) b (putM k val L) → wpList P ops Q rest (a.put o.dst undef) (setBlock w b ob)) :
    wpList P ops Q (o :: rest) a w := by
  refine wpList_plain hg fun K' hK' => ?_
  obtain ⟨ob, hrun, r1⟩ := run_mput ht hk H h val
  unfold Oper.wp
  simp [execOp, hop, hm, hx, hv, hrun, Result.andThen]
  exact hK' _ _ (hK ob r1)
theorem wpList_mdel (hg : o.guard = none) (m x : Operand) (t kt : TypeId) (hop : o.op = Op.call { callee := Callee.builtin Builtin.delete, args := #[m, x], argTypes := #[t, kt] })
    (et : TypeId) (ht : P.underlying t = some (.map kt et)) (hk : P.underlying kt = some (.int .i64))
    (b : Nat) (L : List (Nat × Value)) (hm : a.eval m = .map (some b)) (H : MapB w b L) (k : Nat) (h : k < 4611686018427387904) (hx : a.eval x = kV k)
    (hK : ∀ ob, MapB (setBlock w b ob) b (delM k L) → wpList P ops Q rest (a.put o.dst (.tuple #[])) (setBlock w b ob)) :
    wpList P ops Q (o :: rest) a w := by
  refine wpList_plain hg fun K' hK' => ?_
  obtain ⟨ob, hrun, r1⟩ := run_mdel ht hk H h o.type
  unfold Oper.wp
  simp [execOp, hop, resolve, invoke, builtin, hm, hx, hrun, Result.andThen]
  exact hK' _ _ (hK ob r1)
end
theorem To.setB {S κ κ' w w1} (h : To S κ κ' w w1) (b : Nat) (o : Obj) (ha : b < w.heap.size → S (κ b)) : To S κ κ' w (setBlock w1 b o) := by
  refine ⟨h.os, h.tape, h.output, by unfold setBlock; simpa using h.size, h.col, fun k hb hn => ?_⟩
  have hne : k ≠ b := fun e => by subst e; exact hn (ha hb)
  have : (setBlock w1 b o).heap[k]? = w1.heap[k]? := by unfold setBlock; simp [Array.getElem?_setIfInBounds, Ne.symm hne]
  rw [this]
  exact h.blk k hb hn
end Go.Proofs.YtoacaikopcdkmaaGreat
