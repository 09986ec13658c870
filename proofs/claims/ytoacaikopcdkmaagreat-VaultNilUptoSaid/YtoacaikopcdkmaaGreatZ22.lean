/- slices.Chunk at bytes: its contract. The vault: form. The vault: form. The vault: form, of any group. A region that draws its order, in a round of a range over a function. No condition. -/
import Derived.Test.YtoacaikopcdkmaaGreatZ21
import Derived.RangeFuncNested
import Derived.RangeFuncBound
import Derived.RangeFuncCalls
import Derived.RangeFuncLeaves
import Derived.Shelf.Abstract
import Derived.Shelf.RegionOpen
import Derived.OwnWalkIn
import Derived.TacticsInMore
import Derived.LoopNIn
import Derived.LoopIn
set_option linter.unusedSimpArgs false
set_option linter.unusedVariables false
namespace Go.Proofs.YtoacaikopcdkmaaGreat
open Go.RowKit Go.Sort Go.MapKept Go.Maps Go.WideElems Go.ChangeMaps Go.Shelf
attribute [local go_sem] Oper.semAt_some
/-- What an iterator over chunks reads between two rounds: its two boxes. -/
def KpB (B1 B2 : Nat) (W W' : World) : Prop := W'.cell? ⟨B1, 0, none⟩ = W.cell? ⟨B1, 0, none⟩ ∧ W'.cell? ⟨B2, 0, none⟩ = W.cell? ⟨B2, 0, none⟩
abbrev Ix (m : Nat) := { p : Nat // p < m }
def upto (m : Nat) : (k : Nat) → k ≤ m → List (Ix m)
  | 0, _ => []
  | k + 1, h => upto m k (Nat.le_of_succ_le h) ++ [⟨k, h⟩]
theorem upto_len (m : Nat) : ∀ (k : Nat) (h : k ≤ m), (upto m k h).length = k
  | 0, _ => rfl
  | k + 1, h => by rw [upto, List.length_append, upto_len m k]; rfl
def chunkV (b off : Nat) (m : Nat) (x : Ix m) : Array Value := #[.slice (some ⟨b, off + x.1 * 500, none⟩) 500 500]
set_option maxRecDepth 100000 in
set_option maxHeartbeats 2000000 in
theorem chunk1_in (n : Nat) (hn : 1 ≤ n) (l B1 B2 b off cap m : Nat) (hm : m ≤ 100000) (hcap : m * 500 ≤ cap) (J Jx : List (Ix m) → World → Prop) (B0 : Nat) (hJ : AbidesFrom B0 J)
    (hY : ∀ pre (x : Ix m) W, J pre W → pre.length < m → YieldAt Fence.wide (n - 1) Tryz.prog l (chunkV b off m x) W fun e W' =>
      (e = .returned (.bool true) ∧ J (pre ++ [x]) W' ∧ KpB B1 B2 W W') ∨ (e = .returned (.bool false) ∧ Jx (pre ++ [x]) W'))
    (W : World) (h1 : W.cell? ⟨B1, 0, none⟩ = some (.slice (some ⟨b, off, none⟩) (m * 500) cap)) (h2 : W.cell? ⟨B2, 0, none⟩ = some (.int .i64 500)) (h0 : J [] W) :
    CallsIn Fence.wide n Tryz.prog 138 #[.func (.yield l) #[] #[], .pointer (some ⟨B1, 0, none⟩), .pointer (some ⟨B2, 0, none⟩)] W fun e W' => (∃ v, e = .returned v) ∧
      ((∃ xs, xs = upto m m (Nat.le_refl _) ∧ J xs W') ∨ (∃ pre, (∃ k, ∃ h : k ≤ m, pre = upto m k h) ∧ Jx pre W')) := by
  refine callsIn_of_wp Tryz.func138 rfl trivial ?_ rfl
  simp only [Tryz.ntmps138, List.size_toArray, List.length_cons, List.length_nil, Nat.reduceAdd, Nat.reduceSub, Array.replicate_succ, Array.replicate_zero, List.push_toArray, List.append_toArray, List.nil_append, List.cons_append]
  gi_wp2
  gi_loopw [4] (fun i wr => ∃ (k : Nat) (h : k ≤ m), i = .int .i64 ((k * 500 : Nat) : Int) ∧ J (upto m k h) wr ∧ KpB B1 B2 W wr) (fun i _ => m * 500 - (intOf i).toNat)
  case atStart => exact ⟨0, Nat.zero_le _, rfl, h0, rfl, rfl⟩
  case round =>
    obtain ⟨k, hk, rfl, hJs, hk1, hk2⟩ := hrel
    have d1 := hk1.trans h1
    have d2 := hk2.trans h2
    by_cases hlt : k < m
    · have b0 : (((k * 500 : Nat) : Int) < ((m * 500 : Nat) : Int)) := by omega
      have b1 : ¬ ((m * 500 : Nat) : Int) < ((k * 500 : Nat) : Int) := by omega
      have x1 : m * 500 - k * 500 = (m - k) * 500 := by omega
      have mn : min (500 : Int) (((m - k : Nat) : Int) * 500) = 500 := by omega
      have x2 : IntKind.i64.wrap ((k : Int) * 500 + 500) = (k : Int) * 500 + 500 := by rw [IntKind.wrap_i64]; omega
      have hJd := fun q => hJ _ wr (wr.drewN q) none hJs ⟨rfl, rfl, rfl, Nat.le_refl _, fun _ _ _ => rfl⟩ (fun _ e => by cases e)
      have hYd := fun q => hY _ ⟨k, hlt⟩ (wr.drewN q) (hJd q) (by rw [upto_len]; exact hlt)
      clear hJd hJs hY
      gi_wp2
      refine wpIn_wide.2 ?_
      go_quiet (fail)
      obtain ⟨fn, tmps, assign, body, hy, hR⟩ := hYd nq
      dsimp only [chunkV] at hy
      have c1 : (k : Int) * 500 + 500 ≤ cap := by omega
      have c2 : ((k : Int) * 500 + 500).toNat = k * 500 + 500 := by omega
      have c3 : ((k : Int) * 500).toNat = k * 500 := by omega
      have c4 : k * 500 + 500 - k * 500 = 500 := by omega
      have c5 : (k : Int) * 500 ≤ (k : Int) * 500 + 500 := by omega
      have c6 : (0 : Int) ≤ (k : Int) * 500 := by omega
      have c7 : (0 : Int) ≤ (k : Int) * 500 + 500 := by omega
      gi_wp2
      refine hR.mono ?_
      rintro e W3 (⟨rfl, hJ3, hk3⟩ | ⟨rfl, hJx3⟩)
      · have g1 : W3.cell? ⟨B1, 0, none⟩ = some (.slice (some ⟨b, off, none⟩) (m * 500) cap) := hk3.1.trans d1
        have g2 : W3.cell? ⟨B2, 0, none⟩ = some (.int .i64 500) := hk3.2.trans d2
        gi_wp2
        go_roundw
        case rel => exact ⟨k + 1, hlt, by rw [Nat.succ_mul]; rfl, hJ3, g1.trans h1.symm, g2.trans h2.symm⟩
        case measure => simp [intOf]; omega
      · gi_wp2
        refine bodyPost_ret (results_none rfl _ _ _) rfl ?_
        exact ⟨⟨_, rfl⟩, .inr ⟨_, ⟨k + 1, hlt, rfl⟩, hJx3⟩⟩
    · have : k = m := by omega
      subst this
      gi_wp2
      go_end0
      exact ⟨⟨_, rfl⟩, .inl ⟨_, rfl, hJs⟩⟩
theorem chunk_stops (n : Nat) (hn : 1 ≤ n) (B1 B2 b off cap m : Nat) (hm : m ≤ 100000) (hcap : m * 500 ≤ cap) (w : World) (hB1 : B1 < w.heap.size) (hB2 : B2 < w.heap.size)
    (h1 : w.cell? ⟨B1, 0, none⟩ = some (.slice (some ⟨b, off, none⟩) (m * 500) cap)) (h2 : w.cell? ⟨B2, 0, none⟩ = some (.int .i64 500)) :
    SeqStopsK Fence.wide n Tryz.prog 138 #[.pointer (some ⟨B1, 0, none⟩), .pointer (some ⟨B2, 0, none⟩)] (chunkV b off m) (KpB B1 B2) (fun xs => xs = upto m m (Nat.le_refl _)) (fun pre => ∃ k, ∃ h : k ≤ m, pre = upto m k h) m w := fun l J Jx W hW hJ _ hY h0 =>
  chunk1_in n hn l B1 B2 b off cap m hm hcap J Jx W.heap.size hJ hY W ((hW.cell (p := ⟨B1, 0, none⟩) hB1).trans h1) ((hW.cell (p := ⟨B2, 0, none⟩) hB2).trans h2) h0
/-- slices.Chunk lays two boxes. -/
theorem c_chunk (b off n cap : Nat) (w : World) : Calls Tryz.prog 105 #[.slice (some ⟨b, off, none⟩) n cap, .int .i64 500] w fun e w' => e = .returned (.func (.func 138) #[] #[.pointer (some ⟨w.heap.size, 0, none⟩), .pointer (some ⟨w.heap.size + 1, 0, none⟩)]) ∧ w' = (w.alloc (.cells #[.slice (some ⟨b, off, none⟩) n cap] 22)).alloc (.cells #[.int .i64 500] 3) := by
  have c2 : ((w.alloc (.cells #[.slice (some ⟨b, off, none⟩) n cap] 22)).alloc (.cells #[.int .i64 500] 3)).cell? ⟨w.heap.size + 1, 0, none⟩ = some (.int .i64 500) := by
    have h := heap_alloc_new (w.alloc (.cells #[.slice (some ⟨b, off, none⟩) n cap] 22)) (.cells #[.int .i64 500] 3)
    rw [World.size_alloc] at h
    exact cell_at h rfl
  go_enter Tryz.func105, Tryz.ntmps105
  go_wp2
  go_ret
  exact ⟨rfl, rfl⟩
theorem kpB_t {B1 B2 : Nat} {A B C : World} (h : KpB B1 B2 A B) (k : KpB B1 B2 B C) : KpB B1 B2 A C := ⟨k.1.trans h.1, k.2.trans h.2⟩
theorem kpB_b {B1 B2 : Nat} {w : World} (hB1 : B1 < w.heap.size) (hB2 : B2 < w.heap.size) (W : World) (l : Nat) (o o' : Obj) (hl : w.heap.size ≤ l) (h : W.heap[l]? = some o) (_ : o.isCells = false) (_ : o.isWalk = false) : KpB B1 B2 W (W.putObj l o') := by
  have e1 : (W.putObj l o').heap[B1]? = W.heap[B1]? := World.putObj_heap_other (by omega)
  have e2 : (W.putObj l o').heap[B2]? = W.heap[B2]? := World.putObj_heap_other (by omega)
  exact ⟨World.cell?_of_block e1, World.cell?_of_block e2⟩
end Go.Proofs.YtoacaikopcdkmaaGreat

namespace Go.Proofs.YtoacaikopcdkmaaGreat
open Go.RowKit Go.Sort Go.MapKept Go.Maps Go.WideElems Go.ChangeMaps Go.Shelf
attribute [local go_sem] Oper.semAt_some
def chk (L : List UInt8) (k : Nat) : List UInt8 := (L.drop (k * 500)).take 500
theorem chunks_eq : ∀ (m N : Nat) (L : List UInt8), m ≤ N → L.length = m * 500 → Vm.chunks 500 N L = (List.range m).map (chk L)
  | 0, 0, L, _, h => by simp [Vm.chunks]
  | 0, N + 1, L, _, h => by
    have : L = [] := List.eq_nil_of_length_eq_zero (by omega)
    subst this
    simp [Vm.chunks]
  | m + 1, 0, L, hN, h => by omega
  | m + 1, N + 1, L, hN, h => by
    have hne : L ≠ [] := fun e => by rw [e] at h; simp at h
    rw [Vm.chunks, if_neg hne, chunks_eq m N (L.drop 500) (by omega) (by rw [List.length_drop]; omega), List.range_succ_eq_map, List.map_cons, List.map_map]
    refine congr (congrArg List.cons ?_) (List.map_congr_left fun k _ => ?_)
    · unfold chk; rw [Nat.zero_mul, List.drop_zero]
    show chk (L.drop 500) k = chk L (k + 1)
    unfold chk
    rw [List.drop_drop, Nat.add_comm 500, ← Nat.succ_mul]
def stp (pages : Nat) (r : Bool × Int) (q : List UInt8) : Bool × Int := (r.1 && decide (r.2 < (Vm.num (q.take 4) : Int)) && decide (Vm.num (q.take 4) < pages), (Vm.num (q.take 4) : Int))
def lastI : Option Nat → Int
  | none => -1
  | some n => (n : Int)
theorem stp_false (pages : Nat) : ∀ (l : List (List UInt8)) (z : Int), (l.foldl (stp pages) (false, z)).1 = false
  | [], _ => rfl
  | q :: l, z => by rw [List.foldl_cons]; exact stp_false pages l _
theorem incB_stp (pages : Nat) : ∀ (l : List (List UInt8)) (last : Option Nat), Vm.incB pages last l = (l.foldl (stp pages) (true, lastI last)).1
  | [], last => by cases last <;> rfl
  | q :: l, last => by
    have key : Vm.incB pages last (q :: l) = (decide (lastI last < (Vm.num (q.take 4) : Int)) && decide (Vm.num (q.take 4) < pages) && Vm.incB pages (some (Vm.num (q.take 4))) l) := by
      cases last with
      | none =>
        have e : decide (lastI none < (Vm.num (q.take 4) : Int)) = true := by rw [decide_eq_true_eq]; show (-1 : Int) < _; omega
        rw [e]; rfl
      | some m =>
        have e : decide (lastI (some m) < (Vm.num (q.take 4) : Int)) = decide (m < Vm.num (q.take 4)) := by rw [decide_eq_decide]; show (m : Int) < _ ↔ m < _; omega
        rw [e]; rfl
    rw [key, List.foldl_cons, incB_stp pages l]
    have h2 : stp pages (true, lastI last) q = (decide (lastI last < (Vm.num (q.take 4) : Int)) && decide (Vm.num (q.take 4) < pages), (Vm.num (q.take 4) : Int)) := by simp [stp]
    rw [h2]
    cases hb : (decide (lastI last < (Vm.num (q.take 4) : Int)) && decide (Vm.num (q.take 4) < pages)) with
    | true => rw [Bool.true_and]; rfl
    | false => rw [Bool.false_and, stp_false]
theorem upto_val (m : Nat) : ∀ (k : Nat) (h : k ≤ m), (upto m k h).map (·.1) = List.range k
  | 0, _ => rfl
  | k + 1, h => by rw [upto, List.map_append, upto_val m k, List.range_succ]; rfl
/-- What the rounds so far have found. -/
def fst1 (pages : Nat) (L : List UInt8) {m : Nat} (pre : List (Ix m)) : Bool × Int := pre.foldl (fun r x => stp pages r (chk L x.1)) (true, -1)
theorem fst1_snoc (pages : Nat) (L : List UInt8) {m : Nat} (pre : List (Ix m)) (x : Ix m) : fst1 pages L (pre ++ [x]) = stp pages (fst1 pages L pre) (chk L x.1) := by
  unfold fst1; rw [List.foldl_append]; rfl
theorem fst1_range (pages : Nat) (L : List UInt8) (m k : Nat) (h : k ≤ m) : fst1 pages L (upto m k h) = ((List.range k).map (chk L)).foldl (stp pages) (true, -1) := by
  rw [← upto_val m k h, List.map_map, List.foldl_map]; rfl
theorem fst1_incB (pages : Nat) (L : List UInt8) (m N : Nat) (hN : m ≤ N) (hL : L.length = m * 500) : Vm.incB pages none (Vm.chunks 500 N L) = (fst1 pages L (upto m m (Nat.le_refl _))).1 := by
  rw [chunks_eq m N L hN hL, incB_stp, fst1_range]; rfl
theorem fst1_stop (pages : Nat) (L : List UInt8) (m k : Nat) (h : k ≤ m) (hf : (fst1 pages L (upto m k h)).1 = false) : (fst1 pages L (upto m m (Nat.le_refl _))).1 = false := by
  rw [fst1_range] at hf ⊢
  have e : List.range m = List.range k ++ (List.range (m - k)).map (k + ·) := by
    rw [← List.range_add, show k + (m - k) = m by omega]
  rw [e, List.map_append, List.foldl_append]
  generalize ((List.range k).map (chk L)).foldl (stp pages) (true, -1) = r at hf ⊢
  obtain ⟨b, z⟩ := r
  simp only at hf
  subst hf
  exact stp_false pages _ _
end Go.Proofs.YtoacaikopcdkmaaGreat

namespace Go.Proofs.YtoacaikopcdkmaaGreat
open Go.RowKit Go.Sort Go.MapKept Go.Maps Go.WideElems Go.ChangeMaps Go.Shelf
attribute [local go_sem] Oper.semAt_some
theorem heap_push {w : World} (o : Obj) (k : Nat) : (w.alloc o).heap[k]? = if k = w.heap.size then some o else w.heap[k]? := by
  by_cases h : k = w.heap.size
  · subst h; rw [if_pos rfl]; exact heap_alloc_new w o
  · rw [if_neg h]
    by_cases h2 : k < w.heap.size
    · exact Below.heap_alloc w o k h2
    · rw [Array.getElem?_eq_none (by simp; omega), Array.getElem?_eq_none (by omega)]
theorem five {w W : World} {o1 o2 o3 o4 o5 : Obj} (hW : W = ((((w.alloc o1).alloc o2).alloc o3).alloc o4).alloc o5) : W.heap.size = w.heap.size + 5 ∧ W.heap[w.heap.size]? = some o1 ∧ W.heap[w.heap.size + 1]? = some o2 ∧ W.heap[w.heap.size + 2]? = some o3 ∧ W.heap[w.heap.size + 3]? = some o4 ∧ W.heap[w.heap.size + 4]? = some o5 ∧ Below w.heap.size w W := by
  subst hW
  refine ⟨by simp, ?_, ?_, ?_, ?_, ?_, (((((Below.refl _ _).alloc (Nat.le_refl _) _).alloc (by simp) _).alloc (by simp; omega) _).alloc (by simp; omega) _).alloc (by simp; omega) _⟩ <;> (simp only [heap_push, World.size_alloc]; (repeat (first | rw [if_neg (by omega)] | rw [if_pos (by omega)])); first | rfl | (simp only [if_true]))
set_option maxRecDepth 100000 in
set_option maxHeartbeats 400000 in
theorem c_form2 {κ c w a dA pl fr cv lv h tk wv mv bz dn d} (H : VR κ c w a dA pl fr cv lv h tk wv mv bz dn d) (hp : pl.pages ≤ 2048) (b n cap m : Nat) (p : List UInt8) (hl : p.length = n) (hcap : n ≤ cap) (hn : n = 10 + m * 500) (hm0 : 1 ≤ m) (hm1 : m ≤ 1000) (hnum : Vm.num (p.take 2) = m) (hr : w.rangeAt b 0 (byC p)) (hb : b < w.heap.size) :
    Calls Tryz.prog 103 #[.pointer (some ⟨a, 0, none⟩), .slice (some ⟨b, 0, none⟩) n cap] w fun e w' => e = .returned (.bool (fst1 pl.pages (p.drop 10) (upto m m (Nat.le_refl _))).1) ∧ Below w.heap.size w w' := by
  have c3 : w.cell? ⟨a, 3, none⟩ = some (.int .i64 (pl.pages : Int)) := cell_at H.blk rfl
  have ha := H.lt
  have cO : ∀ W, Below w.heap.size w W → Calls Tryz.prog 104 #[.slice (some ⟨b, 0, none⟩) n cap, .int .i64 2] W fun e w' => e = .returned (.int .u64 (m : Int)) ∧ w' = W := fun W hW => by
    have := c_ofL b 0 n cap 2 p W (by decide) (by omega) hcap (by omega) (rangeAt_below hr hW hb)
    rw [hnum] at this
    exact this
  have hn1 : ¬ ((n : Int) < 10) := by omega
  have hn2 : ((n : Int) == 10) = false := by rw [beq_eq_false_iff_ne]; omega
  have hn4 : IntKind.i64.wrap ((m : Int) * 500) = (m : Int) * 500 := by rw [IntKind.wrap_i64]; omega
  have hn5 : IntKind.i64.wrap (10 + (m : Int) * 500) = (n : Int) := by rw [IntKind.wrap_i64]; omega
  have hn6 : n - 10 = m * 500 := by omega
  have hn0 : 10 ≤ n := by omega
  have hn' := Hid.mk hn
  have H' := Hid.mk H
  have hr' := Hid.mk hr
  have hl' := Hid.mk hl
  clear hn H hr hl
  refine (callsIn_wide (n := 6)).1 ?_
  refine callsIn_of_wp_marks Tryz.func103 rfl trivial ?_ rfl
  simp only [Tryz.ntmps103, List.size_toArray, List.length_cons, List.length_nil, Nat.reduceAdd, Nat.reduceSub, Array.replicate_succ, Array.replicate_zero, List.push_toArray, List.append_toArray, List.nil_append, List.cons_append]
  refine wpIn_wide.2 ?_
  go_wp2_with (first | (go_at_call 104; refine (cO _ (((Below.refl _ _).alloc (Nat.le_refl _) _).alloc (by simp) _)).mono ?_; rintro e w1 ⟨rfl, rfl⟩) | (go_at_call 105; refine (c_chunk b 10 _ _ _).mono ?_; rintro e w1 ⟨rfl, rfl⟩))
  obtain ⟨W0, hW0⟩ : ∃ W0, Hid (W0 = (((((w.alloc (Obj.cells #[Value.pointer (some { block := a, off := 0 })] 24)).alloc (Obj.cells #[Value.bool false] 4)).alloc (Obj.cells #[Value.int IntKind.i64 (-1)] 3)).alloc (Obj.cells #[Value.slice (some { block := b, off := 10 }) (m * 500) (cap - 10)] 22)).alloc (Obj.cells #[Value.int IntKind.i64 500] 3))) := ⟨_, Hid.mk rfl⟩
  rw [← hW0.out]
  obtain ⟨z0, z1, z2, z3, z4, z5, hB0⟩ := five hW0.out
  have hs5 := Hid.mk z0
  obtain ⟨s, hs⟩ : ∃ s, Hid (w.heap.size = s) := ⟨_, Hid.mk rfl⟩
  rw [hs.out] at z0 z1 z2 z3 z4 z5 hB0 ha hb ⊢
  have e1 : s + 1 + 1 = s + 2 := rfl
  have e2 : s + 1 + 1 + 1 = s + 3 := rfl
  have e3 : s + 1 + 1 + 1 + 1 = s + 4 := rfl
  rw [e3, e2, e1]
  clear cO hW0 e1 e2 e3
  have hL : Hid ((p.drop 10).length = m * 500) := by show _ = _; rw [List.length_drop, hl'.out]; omega
  refine (wpIn_wide (n := 6)).1 ?_
  refine wpIn_rangeFunc_ownF (F := Fence.wide) (n := 6) rfl (by decide) (gf := 138) (lb := #[.pointer (some ⟨s + 3, 0, none⟩), .pointer (some ⟨s + 4, 0, none⟩)]) rfl trivial (enters_of Tryz.func138 (by kernel_rfl) rfl)
    (chunk_stops 5 (by decide) (s + 3) (s + 4) b 10 (cap - 10) m (by omega) (by omega) W0 (by omega) (by omega) (cell_at z4 rfl) (cell_at z5 rfl)) (fun h k => kpB_t h k) (kpB_b (by omega) (by omega)) (Below.refl _ _) (fun _ => rfl)
    (fun pre W => ((fst1 pl.pages (p.drop 10) pre).1 = true ∧ W.cell? ⟨s + 2, 0, none⟩ = some (.int .i64 (fst1 pl.pages (p.drop 10) pre).2) ∧ W.frozen? ⟨s + 2, 0, none⟩ = false ∧ W.cell? ⟨s, 0, none⟩ = some (.pointer (some ⟨a, 0, none⟩)) ∧ W.cell? ⟨s + 1, 0, none⟩ = some (.bool false) ∧ W.frozen? ⟨s + 1, 0, none⟩ = false) ∧ Below s w W)
    (fun c pre W => (c = .ret ∧ (fst1 pl.pages (p.drop 10) pre).1 = false ∧ W.cell? ⟨s + 1, 0, none⟩ = some (.bool false)) ∧ Below s w W)
    (OwnFrom.and (Own.from (fun q A B row hq hg hr => ⟨hq.1, cell_kept hq.2.1 hg hr, (frozen_kept hq.2.1 hg hr).trans hq.2.2.1, cell_kept hq.2.2.2.1 hg hr, cell_kept hq.2.2.2.2.1 hg hr, (frozen_kept hq.2.2.2.2.1 hg hr).trans hq.2.2.2.2.2⟩) _) (ownFrom_below (Nat.le_of_eq hs.out.symm) (by omega)))
    (fun c => OwnFrom.and (Own.from (fun q A B row hq hg hr => ⟨hq.1, hq.2.1, cell_kept hq.2.2 hg hr⟩) _) (ownFrom_below (Nat.le_of_eq hs.out.symm) (by omega)))
    ⟨⟨rfl, cell_at z3 rfl, frozen_at z3, cell_at z1 rfl, cell_at z2 rfl, frozen_at z2⟩, hB0⟩
    (fun x => { tmps := #[Value.pointer (some { block := a, off := 0 }), Value.slice (some { block := b, off := 0 }) n cap, Value.pointer (some { block := s, off := 0 }), undef, Value.pointer (some { block := s + 1, off := 0 }), Value.pointer (some { block := s + 2, off := 0 }), Value.slice (some ⟨b, 10 + x.1 * 500, none⟩) 500 500, undef, Value.slice (some { block := b, off := 0 }) n cap, Value.int IntKind.i64 ↑n, Value.bool false, Value.bool false, Value.slice (some { block := b, off := 0 }) n cap, Value.int IntKind.i64 ↑n, Value.slice (some { block := b, off := 0 }) n cap, Value.int IntKind.u64 ↑m, Value.int IntKind.i64 ↑m, Value.int IntKind.i64 (↑m * 500), Value.int IntKind.i64 ↑n, Value.bool false, Value.bool false, Value.bool false, Value.slice (some { block := b, off := 0 }) n cap, Value.int IntKind.i64 ↑n, Value.bool false, Value.bool false, Value.slice (some { block := b, off := 0 }) n cap, Value.slice (some { block := b, off := 10 }) (m * 500) (cap - 10), Value.func (Fn.func 138) #[] #[Value.pointer (some { block := s + 3, off := 0 }), Value.pointer (some { block := s + 4, off := 0 })], Value.slice (some ⟨b, 10 + x.1 * 500, none⟩) 500 500, undef, undef, undef, undef, undef, undef, undef, undef, undef, undef, undef, undef, undef, undef, undef, undef], defers := [] }) ?assign ?body ?done ?stop
  case assign =>
    intro l x W K hK
    simp only [chunkV]
    gi_wp2
    exact hK
  case body =>
    rintro l pre x W ⟨⟨h1, h2, h3, h4, h5, h6⟩, hB⟩ _
    have c3' := (hB.cell (p := ⟨a, 3, none⟩) ha).trans c3
    obtain ⟨q, hq⟩ : ∃ q, Hid (Vm.num ((chk (p.drop 10) x.1).take 4) = q) := ⟨_, Hid.mk rfl⟩
    obtain ⟨z, hz⟩ : ∃ z, Hid ((fst1 pl.pages (p.drop 10) pre).2 = z) := ⟨_, Hid.mk rfl⟩
    rw [hz.out] at h2
    have hst : Hid (fst1 pl.pages (p.drop 10) (pre ++ [x]) = (decide (z < (q : Int)) && decide (q < pl.pages), (q : Int))) := by
      show _ = _
      rw [fst1_snoc, show fst1 pl.pages (p.drop 10) pre = (true, z) from Prod.ext h1 hz.out]
      unfold stp
      rw [hq.out, Bool.true_and]
    have hq4 : q < 4294967296 := by
      have hx := x.2
      have hlen : (chk (p.drop 10) x.1).length = 500 := by
        unfold chk; rw [List.length_take, List.length_drop, hL.out]; omega
      have := nv_lt (fun i => (chk (p.drop 10) x.1).getD i 0) 4
      rw [nv_num _ _ (by omega), hq.out] at this
      omega
    have x1 : IntKind.i64.wrap (q : Int) = q := by rw [IntKind.wrap_i64]; omega
    have cN : Calls Tryz.prog 104 #[.slice (some ⟨b, 10 + x.1 * 500, none⟩) 500 500, .int .i64 4] W fun e w' => e = .returned (.int .u64 (q : Int)) ∧ w' = W := by
      have hx := x.2
      have hlen : (chk (p.drop 10) x.1).length = 500 := by
        unfold chk; rw [List.length_take, List.length_drop, hL.out]; omega
      have hr0 := rangeAt_part (rangeAt_below hr'.out hB hb) (10 + x.1 * 500) 500
      rw [Nat.zero_add, byC_drop, byC_take] at hr0
      have e : List.take 500 (List.drop (10 + x.1 * 500) p) = chk (p.drop 10) x.1 := by unfold chk; rw [List.drop_drop]
      rw [e] at hr0
      have := c_ofL b (10 + x.1 * 500) 500 500 4 (chk (p.drop 10) x.1) W (by decide) (by decide) (by decide) (by omega) hr0
      rw [hq.out] at this
      exact this
    clear hz h1 c3
    have hst' := hst
    clear hst
    by_cases t1 : (q : Int) ≤ z
    · have t1' : decide ((q : Int) ≤ z) = true := decide_eq_true t1
      gi_wp2_with (refine ⟨trivial, ?_⟩; gi_at_call 104; refine (CallsIn.inRound l (callsIn_wide.2 cN)).mono ?_; rintro e w1 ⟨rfl, rfl⟩)
      refine ⟨KeepsOthers.setCell _ _ _, ⟨rfl, ?_, World.cell?_setCell_same' _ _ _ (by rw [h5]; rfl)⟩, hB.setCell (p := ⟨s + 1, 0, none⟩) (by simp) _⟩
      rw [hst'.out]
      have : decide (z < (q : Int)) = false := by rw [decide_eq_false_iff_not]; omega
      rw [this]; rfl
    · have t1' : decide ((q : Int) ≤ z) = false := decide_eq_false t1
      by_cases t2 : pl.pages ≤ q
      · have t2' : decide (pl.pages ≤ q) = true := decide_eq_true t2
        gi_wp2_with (refine ⟨trivial, ?_⟩; gi_at_call 104; refine (CallsIn.inRound l (callsIn_wide.2 cN)).mono ?_; rintro e w1 ⟨rfl, rfl⟩)
        refine ⟨KeepsOthers.setCell _ _ _, ⟨rfl, ?_, World.cell?_setCell_same' _ _ _ (by rw [h5]; rfl)⟩, hB.setCell (p := ⟨s + 1, 0, none⟩) (by simp) _⟩
        rw [hst'.out]
        have : decide (q < pl.pages) = false := by rw [decide_eq_false_iff_not]; omega
        rw [this, Bool.and_false]
      · have t2' : decide (pl.pages ≤ q) = false := decide_eq_false t2
        gi_wp2_with (refine ⟨trivial, ?_⟩; gi_at_call 104; refine (CallsIn.inRound l (callsIn_wide.2 cN)).mono ?_; rintro e w1 ⟨rfl, rfl⟩)
        have e1 : decide (z < (q : Int)) = true := by rw [decide_eq_true_eq]; omega
        have e2 : decide (q < pl.pages) = true := by rw [decide_eq_true_eq]; omega
        have e3 := hst'.out
        rw [e1, e2] at e3
        have k1 : (s + 2 : Nat) ≠ s := by omega
        have k2 : (s + 2 : Nat) ≠ s + 1 := by omega
        refine ⟨KeepsOthers.setCell _ _ _, ⟨?_, ?_⟩, ⟨by rw [e3]; rfl, by rw [e3]; exact World.cell?_setCell_same' _ _ _ (by rw [h2]; rfl), by rw [World.frozen?_setCell]; exact h3, ?_, ?_, by rw [World.frozen?_setCell]; exact h6⟩, hB.setCell (p := ⟨s + 2, 0, none⟩) (by simp) _⟩
        · exact World.cell?_setCell_far _ _ _ _ (by simp)
        · exact World.cell?_setCell_far _ _ _ _ (by simp)
        · exact (World.cell?_setCell_far _ _ _ _ (by simp)).trans h4
        · exact (World.cell?_setCell_far _ _ _ _ (by simp)).trans h5
  case done =>
    rintro D ys W hD rfl ⟨⟨h1, h2, h3, h4, h5, h6⟩, hB⟩ hK
    go_wp2
    have hK' := (KeepsOthers.setCell W ⟨s + 1, 0, none⟩ (.bool true)).same D _ hK rfl
    refine ⟨by simp, .inl ⟨_, _, rfl, run_takeDeferred hK', ?_⟩⟩
    have hc5 := cell_kept (World.cell?_setCell_same' W ⟨s + 1, 0, none⟩ (.bool true) (by rw [h5]; rfl)) (grownBy_putObj' _ D (.deferred none)) (fun r e => by cases e; exact ⟨_, hK', rfl⟩)
    refine ⟨.bool true, ?_, by rw [h1], by rw [hs.out]; exact (hB.setCell (p := ⟨s + 1, 0, none⟩) (by simp) _).trans (belowK_b (w := w) (Nat.le_of_eq hs.out.symm) _ D _ _ (by have := hs.out; omega) hK' rfl rfl)⟩
    simp [results, Tryz.f103, go_sem, hc5]
  case stop =>
    rintro D c pre W hD hpre ⟨⟨rfl, h1, h2⟩, hB⟩ hK
    refine wpIn_wide.2 ?_
    go_wp2
    refine ⟨by simp, .inl ⟨_, _, rfl, run_takeDeferred hK, ?_⟩⟩
    have hc5 := cell_kept h2 (grownBy_putObj' _ D (.deferred none)) (fun r e => by cases e; exact ⟨_, hK, rfl⟩)
    obtain ⟨k, hk, rfl⟩ := hpre
    refine ⟨.bool false, ?_, by rw [fst1_stop _ _ m k hk h1], by rw [hs.out]; exact hB.trans (belowK_b (w := w) (Nat.le_of_eq hs.out.symm) W D _ _ (by have := hs.out; omega) hK rfl rfl)⟩
    simp [results, Tryz.f103, go_sem, hc5]
end Go.Proofs.YtoacaikopcdkmaaGreat

namespace Go.Proofs.YtoacaikopcdkmaaGreat
open Go.RowKit Go.Sort Go.MapKept Go.Maps Go.WideElems Go.ChangeMaps Go.Shelf
attribute [local go_sem] Oper.semAt_some
/-- A group's bytes, in a row that stays, or nil. -/
def GV (w : World) (v : Value) (p : List UInt8) : Prop := (v = .slice none 0 0 ∧ p = []) ∨ ∃ b cap, v = .slice (some ⟨b, 0, none⟩) p.length cap ∧ p.length ≤ cap ∧ b < w.heap.size ∧ w.rangeAt b 0 (byC p)
theorem num4_lt (p : List UInt8) (k : Nat) (h : k ≤ p.length) : Vm.num (p.take k) < 256 ^ k := by
  have := nv_lt (fun i => p.getD i 0) k
  rwa [nv_num _ _ h] at this
set_option maxRecDepth 100000 in
set_option maxHeartbeats 800000 in
theorem c_form0 (a : Nat) (sp : Option Addr) (n cap : Nat) (hn : n < 10) (w : World) :
    Calls Tryz.prog 103 #[.pointer (some ⟨a, 0, none⟩), .slice sp n cap] w fun e w' => e = .returned (.bool false) ∧ Below w.heap.size w w' := by
  have hn1 : decide ((n : Int) < 10) = true := by rw [decide_eq_true_eq]; omega
  have h2 : ((w.alloc (.cells #[.pointer (some ⟨a, 0, none⟩)] 24)).alloc (.cells #[.bool false] 4)).heap[w.heap.size + 1]? = some (.cells #[.bool false] 4 (0, 0)) := by
    have h := heap_alloc_new (w.alloc (.cells #[.pointer (some ⟨a, 0, none⟩)] 24)) (.cells #[.bool false] 4)
    rw [World.size_alloc] at h; exact h
  have hB : Below w.heap.size w ((w.alloc (.cells #[.pointer (some ⟨a, 0, none⟩)] 24)).alloc (.cells #[.bool false] 4)) := ((Below.refl _ _).alloc (Nat.le_refl _) _).alloc (by simp) _
  have d2 := cell_at h2 (i := 1 - 1) rfl
  have f2 := frozen_at h2 (i := 0)
  refine (callsIn_wide (n := 6)).1 ?_
  refine callsIn_of_wp_marks Tryz.func103 rfl trivial ?_ rfl
  simp only [Tryz.ntmps103, List.size_toArray, List.length_cons, List.length_nil, Nat.reduceAdd, Nat.reduceSub, Array.replicate_succ, Array.replicate_zero, List.push_toArray, List.append_toArray, List.nil_append, List.cons_append]
  refine wpIn_wide.2 ?_
  go_wp2
  exact ⟨.bool false, by simp [results, Tryz.f103, go_sem, d2], rfl, hB⟩
set_option maxRecDepth 100000 in
set_option maxHeartbeats 800000 in
theorem c_form1 (a b n cap : Nat) (p : List UInt8) (hl : p.length = n) (hcap : n ≤ cap) (hn : 10 ≤ n) (hn9 : n ≤ 1000000) (hbad : n ≠ 10 + Vm.num (p.take 2) * 500 ∨ n = 10) (w : World) (hr : w.rangeAt b 0 (byC p)) (hb : b < w.heap.size) :
    Calls Tryz.prog 103 #[.pointer (some ⟨a, 0, none⟩), .slice (some ⟨b, 0, none⟩) n cap] w fun e w' => e = .returned (.bool false) ∧ Below w.heap.size w w' := by
  obtain ⟨q, hq⟩ : ∃ q, Hid (Vm.num (p.take 2) = q) := ⟨_, Hid.mk rfl⟩
  have hq2 : q < 65536 := by rw [← hq.out]; exact num4_lt p 2 (by omega)
  rw [hq.out] at hbad
  have cO : ∀ W, Below w.heap.size w W → Calls Tryz.prog 104 #[.slice (some ⟨b, 0, none⟩) n cap, .int .i64 2] W fun e w' => e = .returned (.int .u64 (q : Int)) ∧ w' = W := fun W hW => by
    have := c_ofL b 0 n cap 2 p W (by decide) (by omega) hcap (by omega) (rangeAt_below hr hW hb)
    rw [hq.out] at this
    exact this
  have hn1 : ¬ ((n : Int) < 10) := by omega
  have hn3 : IntKind.i64.wrap (q : Int) = q := by rw [IntKind.wrap_i64]; omega
  have hn4 : IntKind.i64.wrap ((q : Int) * 500) = (q : Int) * 500 := by rw [IntKind.wrap_i64]; omega
  have hn5 : IntKind.i64.wrap (10 + (q : Int) * 500) = 10 + (q : Int) * 500 := by rw [IntKind.wrap_i64]; omega
  have h2 : ((w.alloc (.cells #[.pointer (some ⟨a, 0, none⟩)] 24)).alloc (.cells #[.bool false] 4)).heap[w.heap.size + 1]? = some (.cells #[.bool false] 4 (0, 0)) := by
    have h := heap_alloc_new (w.alloc (.cells #[.pointer (some ⟨a, 0, none⟩)] 24)) (.cells #[.bool false] 4)
    rw [World.size_alloc] at h; exact h
  have hB : Below w.heap.size w ((w.alloc (.cells #[.pointer (some ⟨a, 0, none⟩)] 24)).alloc (.cells #[.bool false] 4)) := ((Below.refl _ _).alloc (Nat.le_refl _) _).alloc (by simp) _
  have d2 := cell_at h2 (i := 1 - 1) rfl
  have f2 := frozen_at h2 (i := 0)
  have cO0 := cO _ hB
  clear hr hl cO h2
  by_cases h5 : n = 10 + q * 500
  · have hn6 : n = 10 := hbad.resolve_left (fun h => h h5)
    have hn7 : ((n : Int) == 10) = true := by rw [beq_iff_eq]; omega
    have hn8 : ((n : Int) != 10 + (q : Int) * 500) = false := by rw [bne_eq_false_iff_eq]; omega
    have h6' := Hid.mk hn6
    have h5' := Hid.mk h5
    clear hn6 h5 hbad
    refine (callsIn_wide (n := 6)).1 ?_
    refine callsIn_of_wp_marks Tryz.func103 rfl trivial ?_ rfl
    simp only [Tryz.ntmps103, List.size_toArray, List.length_cons, List.length_nil, Nat.reduceAdd, Nat.reduceSub, Array.replicate_succ, Array.replicate_zero, List.push_toArray, List.append_toArray, List.nil_append, List.cons_append]
    refine wpIn_wide.2 ?_
    go_wp2_with (go_at_call 104; refine cO0.mono ?_; rintro e w1 ⟨rfl, rfl⟩)
    exact ⟨.bool false, by simp [results, Tryz.f103, go_sem, d2], rfl, hB⟩
  · have hn6 : ((n : Int) != 10 + (q : Int) * 500) = true := by rw [bne_iff_ne]; omega
    clear hbad
    have h5' := Hid.mk h5
    clear h5
    refine (callsIn_wide (n := 6)).1 ?_
    refine callsIn_of_wp_marks Tryz.func103 rfl trivial ?_ rfl
    simp only [Tryz.ntmps103, List.size_toArray, List.length_cons, List.length_nil, Nat.reduceAdd, Nat.reduceSub, Array.replicate_succ, Array.replicate_zero, List.push_toArray, List.append_toArray, List.nil_append, List.cons_append]
    refine wpIn_wide.2 ?_
    go_wp2_with (go_at_call 104; refine cO0.mono ?_; rintro e w1 ⟨rfl, rfl⟩)
    exact ⟨.bool false, by simp [results, Tryz.f103, go_sem, d2], rfl, hB⟩
theorem c_form {κ c w a dA pl fr cv lv h tk wv mv bz dn d} (H : VR κ c w a dA pl fr cv lv h tk wv mv bz dn d) (hp : pl.pages ≤ 2048) (gv : Value) (p : List UInt8) (hg : GV w gv p) (hl : p.length ≤ 200000) :
    Calls Tryz.prog 103 #[.pointer (some ⟨a, 0, none⟩), gv] w fun e w' => e = .returned (.bool (Vm.formB pl.pages p)) ∧ Below w.heap.size w w' := by
  by_cases h10 : p.length < 10
  · have hf : Vm.formB pl.pages p = false := by unfold Vm.formB; rw [decide_eq_false (show ¬ 10 ≤ p.length by omega), Bool.false_and, Bool.false_and, Bool.false_and]
    rw [hf]
    rcases hg with ⟨rfl, rfl⟩ | ⟨b, cap, rfl, h1, h2, h3⟩
    · exact c_form0 a none 0 0 (by decide) w
    · exact c_form0 a _ p.length cap h10 w
  · rcases hg with ⟨rfl, rfl⟩ | ⟨b, cap, rfl, h1, h2, h3⟩
    · simp at h10
    · by_cases hbad : p.length ≠ 10 + Vm.num (p.take 2) * 500 ∨ p.length = 10
      · have hf : Vm.formB pl.pages p = false := by
          unfold Vm.formB
          rcases hbad with h | h
          · rw [decide_eq_false h, Bool.and_false, Bool.false_and, Bool.false_and]
          · rw [decide_eq_true h, Bool.not_true, Bool.and_false, Bool.false_and]
        rw [hf]
        exact c_form1 a b p.length cap p rfl h1 (by omega) (by omega) hbad w h3 h2
      · have h5 : p.length = 10 + Vm.num (p.take 2) * 500 := Decidable.not_not.1 fun h => hbad (.inl h)
        have h6 : p.length ≠ 10 := fun h => hbad (.inr h)
        have hf : Vm.formB pl.pages p = (fst1 pl.pages (p.drop 10) (upto (Vm.num (p.take 2)) (Vm.num (p.take 2)) (Nat.le_refl _))).1 := by
          unfold Vm.formB
          rw [decide_eq_true (show 10 ≤ p.length by omega), decide_eq_true h5, decide_eq_false h6, Bool.true_and, Bool.not_false, Bool.true_and, fst1_incB pl.pages (p.drop 10) (Vm.num (p.take 2)) p.length (by omega) (by rw [List.length_drop]; omega), Bool.true_and]
        rw [hf]
        exact c_form2 H hp b p.length cap _ p rfl h1 h5 (by omega) (by omega) rfl h3 h2
end Go.Proofs.YtoacaikopcdkmaaGreat

namespace Go.Proofs.YtoacaikopcdkmaaGreat
open Go.RowKit Go.Sort Go.MapKept Go.Maps Go.WideElems Go.ChangeMaps Go.Shelf
theorem upon_round {l n : Nat} {P : Program} {o : Oper} {a : Act} {next : Act → World → Prop} {Q : Exit → Act → World → Prop} (r : Result Next) (h : o.upon P a next Q r) : o.uponIn (Fence.wide.inRound l) n P a next Q r := by
  cases r with
  | ok x w' =>
    cases x <;> simp only [Oper.upon, Oper.uponIn] at h ⊢ <;> first
      | exact h
      | exact ⟨(fun e => by cases e), CallsIn.inRound l (callsIn_wide.2 h)⟩
      | exact ⟨(fun e => by cases e), fun c cs _ => let ⟨v, w2, r, s⟩ := h c cs; ⟨v, w2, r, stepsIn_wide.2 s⟩⟩
  | halt x w' => cases x <;> simp only [Oper.upon, Oper.uponIn] at h ⊢ <;> exact h
def noDefer (ops : Array Oper) : Bool := ops.toList.all fun o => match o.op with | .defer _ => false | _ => true
theorem noDefer_spec {ops : Array Oper} (h : noDefer ops = true) {i : Nat} {o : Oper} (ho : ops[i]? = some o) : ∀ c, o.op ≠ .defer c := fun c e => by
  have h1 := List.all_eq_true.1 h o (by
    have : ops.toList[i]? = some o := by rw [Array.getElem?_toList]; exact ho
    exact List.mem_of_getElem? this)
  rw [e] at h1
  cases h1
theorem wpOp_round {l n : Nat} {P : Program} {ops : Array Oper} {Q : Exit → Act → World → Prop} (hno : ¬ LetsOut Q) (hd : noDefer ops = true) {i : Nat} {K : Act → World → Prop} {a : Act} {w : World} (h : wpOp P ops Q i K a w) : wpOpIn (Fence.wide.inRound l) n P ops Q i K a w := by
  unfold wpOp at h
  unfold wpOpIn
  cases ho : ops[i]? with
  | none => rw [ho] at h; exact h
  | some o =>
    rw [ho] at h
    simp only at h ⊢
    split
    · rename_i hw
      rw [if_pos hw] at h
      refine ⟨fun _ _ => trivial, ?_⟩
      rw [Oper.semAt_eq _ _ _ (noDefer_spec hd ho)]
      exact upon_round _ (h.resolve_right fun e => hno e.2)
    · rename_i hw
      rw [if_neg hw] at h
      exact ⟨fun _ _ => trivial, h⟩
theorem wpAny_round {l n : Nat} {P : Program} {md : Region.Mode} {ops : Array Oper} {Q : Exit → Act → World → Prop} (hno : ¬ LetsOut Q) (hd : noDefer ops = true) : ∀ (fuel : Nat) (listed : Array Bool) (a : Act) (w : World), wpAny P md ops Q fuel listed a w → wpAnyIn (Fence.wide.inRound l) n P md ops Q fuel listed a w
  | 0, _, _, _, h => h
  | fuel + 1, _, _, _, h => ⟨h.1, fun i hi => wpOpIn_mono (fun a' w' h' => wpAny_round hno hd fuel _ a' w' h') (wpOp_round hno hd (h.2 i hi))⟩
theorem region_round {l n : Nat} {P : Program} {id : Nat} {ops : Array Oper} {Q : Exit → Act → World → Prop} {a : Act} {w : World} {S : World → Prop} (hm : P.follows .mixedOrders = true) (hno : ¬ LetsOut Q) (hd : noDefer ops = true)
    (h : wpAnyH P .any ops Q S ops.size (Array.replicate ops.size false) a w.drew) : (Code.region id ops true).wpIn (Fence.wide.inRound l) n P Q a w :=
  wpIn_region_any hm (wpAny_round hno hd _ _ _ _ (wpAny_of_held _ _ _ _ h))
end Go.Proofs.YtoacaikopcdkmaaGreat
