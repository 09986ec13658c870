/- A write as one value: number and sector. No condition. -/
import Derived.Test.YtoacaikopcdkmaaGreatZ05
import Derived.Laws.Tables
import Derived.Great.BuildSlice
import Derived.StillTailTactics
set_option linter.unusedSimpArgs false
set_option linter.unusedVariables false
namespace Go.Proofs.YtoacaikopcdkmaaGreat
open Go.RowKit Go.Sort
theorem fold_putL (off : Nat) : ∀ (vs : List Value) (j : Nat) (cells : Array Value), off + j + vs.length ≤ cells.size → ((vs.zipIdx j).foldl (fun cs x => cs.setIfInBounds (off + x.2) x.1) cells).toList = putL cells.toList (off + j) vs
  | [], j, cells, _ => by simp [putL]
  | v :: vs, j, cells, h => by
    rw [List.length_cons] at h
    rw [List.zipIdx_cons, List.foldl_cons, fold_putL off vs (j + 1) _ (by rw [Array.size_setIfInBounds]; omega), Array.toList_setIfInBounds, ← Nat.add_assoc]
    exact putL_cons _ _ _ _ (by rw [Array.length_toList]; omega)
theorem fill_one (place : Nat → Option (Nat × Nat)) (cells : Array Value) (i : Nat) (v : Value) (rest : List (Nat × Value)) (off size : Nat) (hp : place i = some (off, size)) (hv : v.cells.size = size) (hc : off + size ≤ cells.size) :
    Instr.fill place cells ((i, v) :: rest) = Instr.fill place (putL cells.toList off v.cells.toList).toArray rest := by
  rw [Instr.fill]
  simp only [hp]
  rw [if_neg (by simp [hv]; omega)]
  congr 1
  apply Array.toList_inj.1
  have := fold_putL off v.cells.toList 0 cells (by rw [Array.length_toList, hv]; omega)
  rw [Nat.add_zero] at this
  rw [← this, ← Array.foldl_toList, Array.toList_zipIdx]
theorem putL_pair (zs cs : List Value) (k : Value) (h1 : zs.length = 65) (h2 : cs.length = 64) : putL (putL zs 0 [k]) 1 cs = k :: cs := by
  unfold putL
  rw [List.take_zero, List.nil_append, List.length_singleton, Nat.zero_add, List.singleton_append, List.take_succ_cons, List.take_zero]
  rw [h2, show 1 + 64 = 64 + 1 by rfl, List.drop_succ_cons, List.drop_drop, List.drop_of_length_le (by omega), List.append_nil]
  rfl
theorem zero110 : ∃ i z, Tryz.prog.info? 110 = some i ∧ i.zero = some z ∧ i.size = 65 ∧ i.bytes = 72 ∧ z.cells.size = 65 := info_sz (by kernel_rfl)
theorem places110 : (match Tryz.prog.underlying 110 with | some (.struct fs) => fs.toList.mapM (fun f => (Tryz.prog.info? f.type).map fun i => (f.offset, i.size)) | _ => none) = some [(0, 1), (1, 64)] := by kernel_rfl
theorem build110 (k : Int) (cs : List Value) (h : cs.length = 64) (w : World) : (Instr.build 110 #[(0, .int .i64 k), (1, .agg cs.toArray)]).run Tryz.prog w = .ok (.agg (Value.int .i64 k :: cs).toArray) w := by
  refine run_build w 110 _ _ ?_
  obtain ⟨i, z, e1, e2, e3, e4, e5⟩ := zero110
  have hp := places110
  unfold Program.built
  cases hu : Tryz.prog.underlying 110 with
  | none => rw [hu] at hp; cases hp
  | some d =>
    rw [hu] at hp
    cases d <;> try (cases hp; done)
    rename_i fs
    simp only at hp
    simp only [e1, e2, hp]
    generalize z.cells = Z at e5
    have hl : Z.toList.length = 65 := by rw [Array.length_toList]; exact e5
    refine (fill_one _ Z 0 (.int .i64 k) [(1, .agg cs.toArray)] 0 1 rfl rfl (by omega)).trans ((fill_one _ (putL Z.toList 0 [.int .i64 k]).toArray 1 (.agg cs.toArray) [] 1 64 rfl h (by simp [putL]; omega)).trans ?_)
    rw [Instr.fill]
    exact congrArg (fun l : List Value => some l.toArray) (putL_pair _ _ _ hl h)
theorem bslice110 (k : Int) (cs : List Value) (h : cs.length = 64) (w : World) : (Instr.buildSlice 104 1 #[(0, .agg (Value.int .i64 k :: cs).toArray)]).run Tryz.prog w = .ok (.slice (some ⟨w.heap.size, 0, none⟩) 1 1) (w.alloc (.cells (Value.int .i64 k :: cs).toArray 110)) := by
  obtain ⟨i, z, e1, e2, e3, e4, e5⟩ := zero110
  refine run_buildSlice w 104 110 1 _ _ i z Tryz.underlying104 e1 e2 (by rw [e3]; decide) (by rw [e3]; decide) ?_
  rw [e3]
  generalize hZ : (Array.range (1 * 65)).map (z.cells[· % z.cells.size]!) = Z
  have hl : Z.size = 65 := by rw [← hZ, Array.size_map, Array.size_range]
  have hc : (Value.int .i64 k :: cs).toArray.size = 65 := by simp [h]
  refine (fill_one _ Z 0 (.agg (Value.int .i64 k :: cs).toArray) [] 0 65 rfl hc (by omega)).trans ?_
  rw [Instr.fill]
  refine congrArg (fun l : List Value => some l.toArray) ?_
  show putL Z.toList 0 (Value.int .i64 k :: cs) = _
  unfold putL
  rw [List.take_zero, List.nil_append, List.drop_of_length_le (by rw [Array.length_toList, List.length_cons, h]; omega), List.append_nil]
theorem fold_all (A B : Array Value) (h : B.size = 65) (hA : A.size = 65) : Array.foldl (fun (cs : Array Value) (x : Value × Nat) => cs.setIfInBounds x.snd x.fst) B A.zipIdx 0 65 = A := by
  have h1 := fold_putL 0 A.toList 0 B (by rw [Array.length_toList]; omega)
  apply Array.toList_inj.1
  have e : Array.foldl (fun (cs : Array Value) (x : Value × Nat) => cs.setIfInBounds x.snd x.fst) B A.zipIdx 0 65 = Array.foldl (fun (cs : Array Value) (x : Value × Nat) => cs.setIfInBounds x.snd x.fst) B A.zipIdx := by
    congr 1; simp [hA]
  rw [e, ← Array.foldl_toList, Array.toList_zipIdx]
  simp only [Nat.zero_add] at h1
  rw [h1]
  unfold putL
  rw [List.take_zero, List.nil_append, List.drop_of_length_le (by simp only [Array.length_toList]; omega), List.append_nil]
theorem fold_pair (k : Value) (cs : List Value) (h : cs.length = 64) : List.foldl (fun (cs : Array Value) (x : Value × Nat) => cs.setIfInBounds (1 + x.snd) x.fst) (Tryz.zeroCells110.setIfInBounds 0 k) cs.zipIdx = (k :: cs).toArray := by
  have hz : Tryz.zeroCells110.size = 65 := by kernel_rfl
  generalize Tryz.zeroCells110 = Z at *
  apply Array.toList_inj.1
  have h1 := fold_putL 1 cs 0 (Z.setIfInBounds 0 k) (by rw [Array.size_setIfInBounds]; omega)
  rw [h1, Array.toList_setIfInBounds]
  have h2 := putL_pair Z.toList cs k (by rw [Array.length_toList]; exact hz) h
  have h3 := putL_cons Z.toList 0 k [] (by rw [Array.length_toList]; omega)
  have h4 : putL (Z.toList.set 0 k) (0 + 1) [] = Z.toList.set 0 k := by unfold putL; rw [List.append_nil]; exact List.take_append_drop _ _
  rw [h4] at h3
  rw [h3]
  exact h2
theorem still_load_mid {P : Program} {op : Oper} {a : Act} {w : World} {K : Act → Prop} (ty : TypeId) (x : Operand) (ho : op.op = .load ty x)
    (b o : Nat) (hx : a.eval x = .pointer (some ⟨b, o, none⟩)) (cs : List Value) (d : TypeDesc) (hc : w.rangeAt b o cs)
    (hu : P.underlying ty = some d) (hd : d.isRow = true) (hi : (P.info? ty).map (·.size) = some cs.length)
    (h : K (a.put op.dst (.agg cs.toArray))) : op.still P a w K := by
  unfold Oper.still execOp
  simp only [ho, hx, Instr.loadAt, Instr.sureAddr, Sem.run_bind, Sem.run_pure, Result.andThen_ok, run_loadVar_mid w b o ty cs d hc hu hd hi]
  exact ⟨rfl, h⟩
theorem take_putL (xs : List Value) (o m : Nat) (vs : List Value) (h : o + vs.length ≤ m) : (putL xs o vs).take m = putL (xs.take m) o vs := by
  unfold putL
  by_cases hx : o ≤ xs.length
  · have e1 : (xs.take o).length = o := by rw [List.length_take]; omega
    rw [List.take_append, List.take_of_length_le (by rw [List.length_append, e1]; exact h), List.length_append, e1, List.take_take, Nat.min_eq_left (by omega), List.drop_take]
  · have hx' : xs.length ≤ o := by omega
    rw [List.take_of_length_le hx', List.drop_of_length_le (by omega), List.append_nil, List.take_of_length_le (by rw [List.length_append]; omega), List.take_of_length_le (l := xs) (by omega), List.take_of_length_le hx', List.drop_of_length_le (by omega), List.append_nil]
theorem putL_len (xs : List Value) (o : Nat) (vs : List Value) (h : o + vs.length ≤ xs.length) : (putL xs o vs).length = xs.length := by
  unfold putL; simp; omega
theorem own_put {w : World} {base e size g n cap : Nat} {xs : List Value} (h : w.ownsRow base e size (.slice (some ⟨g, 0, none⟩) n cap) n xs) (o : Nat) (vs : List Value) (ho : o + vs.length ≤ n * size) :
    (w.setCells g o vs).ownsRow base e size (.slice (some ⟨g, 0, none⟩) n cap) n (putL xs o vs) := by
  refine ⟨by rw [putL_len _ _ _ (by rw [h.1]; exact ho)]; exact h.1, ?_⟩
  rcases h.2 with h | ⟨g', cap', cur, e1, e2, e3, e4, e5, e6, e7⟩
  · exact absurd h.1 (by simp)
  · cases e1
    have hfit : o + vs.length ≤ cur.toList.length := Nat.le_trans ho (by rw [Array.length_toList, e6]; exact Nat.mul_le_mul_right _ e4)
    refine .inr ⟨g, cap, _, rfl, e2, setCells_row g e (0, 0) vs o w cur.toList ?_ (by simpa using e3), e4, e5, ?_, ?_⟩
    · exact hfit
    · rw [List.size_toArray, putL_len _ _ _ hfit, Array.length_toList, e6]
    · rw [List.toList_toArray, take_putL _ _ _ _ ho, e7]
theorem looC_snoc (l : List (Nat × List UInt8)) (k : Nat) (p : List UInt8) : looC (l ++ [(k, p)]) = looC l ++ (Value.int .i64 (k : Int) :: byC p) := by
  unfold looC; rw [List.flatMap_append]; simp
theorem own_drew {w : World} {base e size : Nat} {v : Value} {n : Nat} {xs : List Value} (h : w.ownsRow base e size v n xs) : w.drew.ownsRow base e size v n xs := h
theorem rangeAt_grown {w w' : World} {row : Option Nat} {b o : Nat} {cs : List Value} (h : w.rangeAt b o cs) (g : w.grownBy w' row) (hn : some b ≠ row) : w'.rangeAt b o cs := fun j v hv => g.cell (h j v hv) hn
theorem rangeAt_setCell {w : World} {b o : Nat} {cs : List Value} (h : w.rangeAt b o cs) (a : Addr) (u : Value) (hn : a.block ≠ b) : (w.setCell a u).rangeAt b o cs := fun j v hv => by
  rw [World.cell?_of_block (Below.heap_setCell w a u b (Ne.symm hn))]; exact h j v hv
end Go.Proofs.YtoacaikopcdkmaaGreat
