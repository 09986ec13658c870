/- strings.Builder at the begin of a struct, in the model's own memory: what its methods do. No condition. -/
import Derived.Shelf.Small.Bits
import Derived.Test.YtjofelloaofooaaGreatDoorLg07
import Derived.Test.YtjofelloaofooaaGreatDoorK1
set_option linter.unusedSimpArgs false
set_option linter.unusedVariables false
namespace Go.Proofs.YtjofelloaofooaaGreatDoor
open Go.Proofs.Tryz
open Go.RowKit Go.Shelf
section
variable {P : Program}
theorem SK {w : World} (base : Nat) (t u ty e : TypeId) (i : TypeInfo) (ht : P.underlying t = some (.slice e)) (hu : P.underlying u = some .string) (hi : P.info? e = some i) (hz : i.zero = some (.int .u8 0)) (hsize : i.size = 1) (hby : i.bytes = 1)
  (v : Value) (n : Nat) (xs : List Value) (hown : w.ownsRow base e 1 v n xs) (s : ByteArray) (h63 : n + s.size <= 140737488355328) (hbase : base <= w.heap.size) :
  ∃ v' w', (Builtin.append_ #[t, u] ty #[v, .string s]).run P w = .ok v' w' /\ w'.ownsRow base e 1 v' (n + s.size) (xs ++ Lib.strCells s) /\ w.grownBy w' v.ownBlock /\ (v'.ownBlock = v.ownBlock \/ v'.ownBlock = some w.heap.size) := by
 obtain ⟨v', w', hr, h2, h3, h4⟩ := Lib.run_append_own_string (P := P) w base t u ty e i ht hu hi hz hsize hby v n xs hown s (by unfold maxLen; omega) h63 hbase;refine ⟨v', w', hr, h2, h3, ?_⟩;rcases hown.2 with ⟨rfl, rfl⟩ | ⟨g, cap, cur, rfl, hbg, hg, hnc, hcm, hcs, htake⟩
 ·by_cases hm : s.size = 0
  ·left; rw [h4.2 ⟨rfl, hm⟩]
  ·right;have := run_append_nil_string (P := P) w t u ty e i _ ht hu hi hz s (by omega) (by omega) (by rw [hby]; omega);rw [hr] at this; injection this with a b; subst a; rfl
 ·by_cases hroom : n + s.size <= cap
  ·left;have := Lib.run_append_room_string (P := P) w t u ty e i ht hu hi hsize g n cap cur hg s hroom (by omega);rw [hr] at this; injection this with a b; subst a; rfl
  ·right;have := Lib.run_append_grow_string (P := P) w t u ty e i _ ht hu hi hz ⟨g, 0, none⟩ n cap xs (by rw [hsize]; exact hown.1) (hown.cells (g := g) rfl) s (by omega) (by omega) (growslice_fits (by omega) (by rw [hby]; omega));rw [hr] at this; injection this with a b; subst a; rfl
theorem Ts {w : World} (base : Nat) (t ty e : TypeId) (i : TypeInfo) (ht : P.underlying t = some (.slice e)) (hi : P.info? e = some i) (hz : i.zero = some (.int .u8 0)) (hsize : i.size = 1) (hby : i.bytes = 1)
  (v : Value) (n : Nat) (xs : List Value) (hown : w.ownsRow base e 1 v n xs) (ad : Addr) (m c : Nat) (news : List Value) (hl : news.length = m) (hm0 : 0 < m) (hnews : ∀ j u, news[j]? = some u -> w.cell? (ad.add j) = some u) (h1 : ∀ u ∈ news, u.oneCell' = true)
  (h63 : n + m <= 140737488355328) (hbase : base <= w.heap.size) :
  ∃ v' w', (Builtin.append_ #[t, t] ty #[v, .slice (some ad) m c]).run P w = .ok v' w' /\ w'.ownsRow base e 1 v' (n + m) (xs ++ news) /\ w.grownBy w' v.ownBlock /\ (v'.ownBlock = v.ownBlock \/ v'.ownBlock = some w.heap.size) := by
 obtain ⟨v', w', hr, h2, h3, h4⟩ := run_append_own (P := P) (w := w) base t ty e i (.int .u8 0) 1 1 ht hi hz hsize hby rfl (by decide) v n xs hown ad m c news (by omega) hnews h1 (by unfold maxLen; omega) (by omega) hbase;refine ⟨v', w', hr, h2, h3, ?_⟩;rcases hown.2 with ⟨rfl, rfl⟩ | ⟨g, cap, cur, rfl, hbg, hg, hnc, hcm, hcs, htake⟩
 ·right;have := run_append_nil (P := P) w t ty e i _ ht hi hz ad m c news (by rw [hsize]; omega) hnews hm0 (by omega) (by rw [hby]; omega);rw [hr] at this; injection this with a b; subst a; rfl
 ·by_cases hroom : n + m <= cap
  ·left;have := run_append_room (P := P) w t ty e i ht hi g n cap cur hg ad m c news (by rw [hsize]; omega) hnews h1 hroom (by rw [hsize]; omega);rw [hr] at this; injection this with a b; subst a; rfl
  ·right;have := run_append_grow (P := P) w t ty e i _ ht hi hz ⟨g, 0, none⟩ n cap xs (by rw [hsize]; exact hown.1) (hown.cells (g := g) rfl) ad m c news (by rw [hsize]; omega) hnews (by omega) (by omega) (growslice_fits (by omega) (by rw [hby]; omega));rw [hr] at this; injection this with a b; subst a; rfl
theorem SA {w : World} {ops : Array Oper} {rest : List Oper} {o : Oper} {a : Act} {Q : Exit -> Act -> World -> Prop} (hgd : o.guard = none) (sl x : Operand) (t u : TypeId)
  (ho : o.op = .call { callee := .builtin .append, args := #[sl, x], argTypes := #[t, u] })
  (base : Nat) (e : TypeId) (i : TypeInfo) (ht : P.underlying t = some (.slice e)) (hu : P.underlying u = some .string) (hi : P.info? e = some i) (hz : i.zero = some (.int .u8 0)) (hsize : i.size = 1) (hby : i.bytes = 1)
  (v : Value) (n : Nat) (xs : List Value) (hs : a.eval sl = v) (hown : w.ownsRow base e 1 v n xs) (s : ByteArray) (hx : a.eval x = .string s) (h63 : n + s.size <= 140737488355328) (hbase : base <= w.heap.size)
  (h : ∀ v' w', w'.ownsRow base e 1 v' (n + s.size) (xs ++ Lib.strCells s) -> w.grownBy w' v.ownBlock -> (v'.ownBlock = v.ownBlock \/ v'.ownBlock = some w.heap.size) -> wpList P ops Q rest (a.put o.dst v') w') : wpList P ops Q (o :: rest) a w := by
 refine wpList_plain hgd fun K hK => ?_;obtain ⟨v', w', hr, h2, h3, h4⟩ := SK (P := P) base t u o.type e i ht hu hi hz hsize hby v n xs hown s h63 hbase;unfold Oper.wp execOp;simp only [ho, resolve, invoke, builtin, Sem.run_bind, Sem.run_pure, Result.andThen_ok, List.map_toArray, List.map_cons, List.map_nil, hs, hx, hr];exact hK _ _ (h v' w' h2 h3 h4)
theorem TT {w : World} {ops : Array Oper} {rest : List Oper} {o : Oper} {a : Act} {Q : Exit -> Act -> World -> Prop} (hgd : o.guard = none) (sl x : Operand) (t : TypeId)
  (ho : o.op = .call { callee := .builtin .append, args := #[sl, x], argTypes := #[t, t] })
  (base : Nat) (e : TypeId) (i : TypeInfo) (ht : P.underlying t = some (.slice e)) (hi : P.info? e = some i) (hz : i.zero = some (.int .u8 0)) (hsize : i.size = 1) (hby : i.bytes = 1)
  (v : Value) (n : Nat) (xs : List Value) (hs : a.eval sl = v) (hown : w.ownsRow base e 1 v n xs) (ad : Addr) (m c : Nat) (news : List Value) (hx : a.eval x = .slice (some ad) m c) (hl : news.length = m) (hm0 : 0 < m)
  (hnews : ∀ j u, news[j]? = some u -> w.cell? (ad.add j) = some u) (h1 : ∀ u ∈ news, u.oneCell' = true) (h63 : n + m <= 140737488355328) (hbase : base <= w.heap.size)
  (h : ∀ v' w', w'.ownsRow base e 1 v' (n + m) (xs ++ news) -> w.grownBy w' v.ownBlock -> (v'.ownBlock = v.ownBlock \/ v'.ownBlock = some w.heap.size) -> wpList P ops Q rest (a.put o.dst v') w') : wpList P ops Q (o :: rest) a w := by
 refine wpList_plain hgd fun K hK => ?_;obtain ⟨v', w', hr, h2, h3, h4⟩ := Ts (P := P) base t o.type e i ht hi hz hsize hby v n xs hown ad m c news hl hm0 hnews h1 h63 hbase;unfold Oper.wp execOp;simp only [ho, resolve, invoke, builtin, Sem.run_bind, Sem.run_pure, Result.andThen_ok, List.map_toArray, List.map_cons, List.map_nil, hs, hx, hr];exact hK _ _ (h v' w' h2 h3 h4)
structure BA (T e : TypeId) (B b : Nat) (p : Value) (bs rv : List Value) (v : Value) (w : World) : Prop where
 hB : B <= b
 blk : w.heap[b]? = some (.cells (p :: v :: rv).toArray T (0, 0))
 row : w.ownsRow B e 1 v bs.length bs
 ne : T ≠ e
structure Fr (b : Nat) (row : Option Nat) (w w' : World) : Prop where
 ev : w'.os = w.os /\ w'.output = w.output /\ w'.tape = w.tape
 size : w.heap.size <= w'.heap.size
 blk : ∀ k, k < w.heap.size -> k ≠ b -> some k ≠ row -> w'.heap[k]? = w.heap[k]?
theorem Fr.refl (b : Nat) (row : Option Nat) (w : World) : Fr b row w w := ⟨⟨rfl, rfl, rfl⟩, Nat.le_refl _, fun _ _ _ _ => rfl⟩
theorem Fr.trans {b : Nat} {row : Option Nat} {u v w : World} (h : Fr b row u v) (g : Fr b row v w) : Fr b row u w :=
 ⟨⟨g.ev.1.trans h.ev.1, g.ev.2.1.trans h.ev.2.1, g.ev.2.2.trans h.ev.2.2⟩, Nat.le_trans h.size g.size, fun k hk h1 h2 => (g.blk k (Nat.lt_of_lt_of_le hk h.size) h1 h2).trans (h.blk k hk h1 h2)⟩
theorem Fr.setCell (b : Nat) (row : Option Nat) (w : World) (j : Nat) (v : Value) : Fr b row w (w.setCell ⟨b, j, none⟩ v) :=
 ⟨⟨rfl, rfl, rfl⟩, by simp [World.setCell], fun k _ hk _ => Below.heap_setCell _ _ _ _ hk⟩
theorem Fr.grown {b : Nat} {w w' : World} {row : Option Nat} (h : w.grownBy w' row) : Fr b row w w' := ⟨⟨h.os, h.output, h.tape⟩, h.size, fun k hk _ h2 => h.block k hk h2⟩
theorem Fr.alloc (b : Nat) (row : Option Nat) (w : World) (o : Obj) : Fr b row w (w.alloc o) := ⟨⟨rfl, rfl, rfl⟩, by rw [World.size_alloc]; omega, fun k hk _ _ => Lib.alloc_old w o k hk⟩
theorem BA.lt {T e : TypeId} {B b : Nat} {p : Value} {bs rv : List Value} {v : Value} {w : World} (h : BA T e B b p bs rv v w) : b < w.heap.size := by
 rcases Nat.lt_or_ge b w.heap.size with h' | h'
 ·exact h'
 ·have := h.blk; simp [Array.getElem?_eq_none h'] at this
theorem BA.rne {T e : TypeId} {B b : Nat} {p : Value} {bs rv : List Value} {v : Value} {w : World} (h : BA T e B b p bs rv v w) : v.ownBlock ≠ some b := Lib.ownBlock_ne h.row h.blk h.ne
theorem BA.kept {T e : TypeId} {B b : Nat} {p : Value} {bs rv : List Value} {v : Value} {w w' : World} (h : BA T e B b p bs rv v w) (q : Value) (hs : w'.heap.size = w.heap.size) (hev : w'.os = w.os /\ w'.output = w.output /\ w'.tape = w.tape)
  (hb : w'.heap[b]? = some (.cells (q :: v :: rv).toArray T (0, 0))) (ho : ∀ k, k < w.heap.size -> k ≠ b -> w'.heap[k]? = w.heap[k]?) : BA T e B b q bs rv v w' :=
 ⟨h.hB, hb, h.row.kept (row := some b) ⟨hev.1, hev.2.2, hev.2.1, by omega, fun k hk hn => ho k hk (fun e => hn (by rw [e]))⟩ (.inr h.rne), h.ne⟩
end
section
set_option maxHeartbeats 1000000 in
set_option maxRecDepth 100000 in
theorem SF (b : Nat) (w : World) (h0 : w.cell? ⟨b, 0, none⟩ = some (.pointer (some ⟨b, 0, none⟩))) :
  Calls prog 48 #[.pointer (some ⟨b, 0, none⟩)] w fun e w' => e = .returned (.tuple #[]) /\ w' = w := by
 obtain ⟨j, hj, _⟩ := Option.map_eq_some_iff.1 (by kernel_rfl : (prog.info? 51).map (·.size) = some 2);have mixed := (by kernel_rfl : prog.follows .mixedOrders = true)
 have t72 := underlying51; have a72 := isAgg51; have z72 := sizeOf51; have v72 := zeroValue51; have u72 := run_underlying underlying51;have t70 := underlying49; have a70 := isAgg49; have z70 := sizeOf49; have v70 := zeroValue49; have u70 := run_underlying underlying49;have t9 := underlying9; have a9 := isAgg9; have z9 := sizeOf9; have v9 := zeroValue9; have u9 := run_underlying underlying9;have t4 := underlying4; have a4 := isAgg4; have z4 := sizeOf4; have v4 := zeroValue4; have u4 := run_underlying underlying4;have t164 := underlying122; have a164 := isAgg122; have z164 := sizeOf122; have v164 := zeroValue122; have u164 := run_underlying underlying122
 go_enter func48, ntmps48
 go_wp2
 rw [Lib.run_neq_ptr_same w _ underlying49 hj]
 go_wp2
 go_end0
 exact ⟨rfl, rfl⟩
set_option maxHeartbeats 1000000 in
set_option maxRecDepth 100000 in
theorem Ri {T : TypeId} {n : Nat} (b : Nat) (w : World) (h0 : w.cell? ⟨b, 0, none⟩ = some (.pointer none)) (hsh : w.shape? b = some (T, n)) (hn : 0 < n) (hlies : liesAt prog prog.depth T (n / prog.cellsOf T) 0 51 1 = true) (hfz : w.frozen? ⟨b, 0, none⟩ = false) :
  Calls prog 48 #[.pointer (some ⟨b, 0, none⟩)] w fun e w' => e = .returned (.tuple #[]) /\ w' = w.setCell ⟨b, 0, none⟩ (.pointer (some ⟨b, 0, none⟩)) := by
 obtain ⟨j, hj, hjs⟩ := Option.map_eq_some_iff.1 (by kernel_rfl : (prog.info? 51).map (·.size) = some 2);have mixed := (by kernel_rfl : prog.follows .mixedOrders = true)
 have t72 := underlying51; have a72 := isAgg51; have z72 := sizeOf51; have v72 := zeroValue51; have u72 := run_underlying underlying51;have t70 := underlying49; have a70 := isAgg49; have z70 := sizeOf49; have v70 := zeroValue49; have u70 := run_underlying underlying49;have t9 := underlying9; have a9 := isAgg9; have z9 := sizeOf9; have v9 := zeroValue9; have u9 := run_underlying underlying9;have t4 := underlying4; have a4 := isAgg4; have z4 := sizeOf4; have v4 := zeroValue4; have u4 := run_underlying underlying4;have t164 := underlying122; have a164 := isAgg122; have z164 := sizeOf122; have v164 := zeroValue122; have u164 := run_underlying underlying122
 go_enter func48, ntmps48
 go_wp2
 rw [Lib.run_to_unsafe w ⟨b, 0, none⟩ underlying49 underlying122 hj (by rw [hjs]; decide) hsh hn];simp only [Result.andThen];rw [Oper.upon_value]
 go_wp2
 rw [run_callFunc_extern func96 (by kernel_rfl) (by kernel_rfl) (by kernel_rfl) (e := Extern.AbiNoEscape.same) (by kernel_rfl)];rw [Lib.run_noEscape];simp only [Result.andThen];rw [Oper.upon_value]
 go_wp2
 rw [Lib.run_from_unsafe w ⟨b, 0, none⟩ underlying122 underlying49 hj hsh hlies];simp only [Result.andThen];rw [Oper.upon_value]
 go_wp2
 go_end0
 exact ⟨rfl, rfl⟩
theorem Y1 {w : World} {b : Nat} {p v q : Value} {rv : List Value} {T : TypeId} (hb : w.heap[b]? = some (.cells (p :: v :: rv).toArray T (0, 0))) : (w.setCell ⟨b, 0, none⟩ q).heap[b]? = some (.cells (q :: v :: rv).toArray T (0, 0)) := by
 simp [World.setCell, Array.getElem?_modify, hb]
theorem YC {w : World} {b : Nat} {p v q : Value} {rv : List Value} {T : TypeId} (hb : w.heap[b]? = some (.cells (p :: v :: rv).toArray T (0, 0))) : (w.setCell ⟨b, 1, none⟩ q).heap[b]? = some (.cells (p :: q :: rv).toArray T (0, 0)) := by
 simp [World.setCell, Array.getElem?_modify, hb]
theorem RM {T e : TypeId} {n : Nat} {B b : Nat} {p : Value} {bs rv : List Value} {v : Value} {w : World} (h : BA T e B b p bs rv v w) (hp : p = .pointer none \/ p = .pointer (some ⟨b, 0, none⟩)) (hn : rv.length + 2 = n) (hlies : liesAt prog prog.depth T (n / prog.cellsOf T) 0 51 1 = true) :
  Calls prog 48 #[.pointer (some ⟨b, 0, none⟩)] w fun r w' => r = .returned (.tuple #[]) /\ BA T e B b (.pointer (some ⟨b, 0, none⟩)) bs rv v w' /\ Fr b v.ownBlock w w' /\ w'.heap.size = w.heap.size := by
 have c0 : w.cell? ⟨b, 0, none⟩ = some p := by rw [Lib.cell_of_heap h.blk]; rfl
 rcases hp with rfl | rfl
 ·refine (Ri b w c0 (T := T) (n := n) (by simp [World.shape?, h.blk, <- hn]) (by omega) hlies (Lib.frozen_of_heap h.blk 0)).mono ?_;rintro _ w' ⟨rfl, rfl⟩;exact ⟨rfl, h.kept _ (by simp [World.setCell]) ⟨rfl, rfl, rfl⟩ (Y1 h.blk) (fun k _ hk => Below.heap_setCell _ _ _ _ hk), Fr.setCell .., by simp [World.setCell]⟩
 ·refine (SF b w c0).mono ?_;rintro _ w' ⟨rfl, rfl⟩;exact ⟨rfl, h, Fr.refl .., rfl⟩
set_option maxHeartbeats 2000000 in
set_option maxRecDepth 100000 in
theorem Aae {T : TypeId} {n : Nat} {B b : Nat} {p : Value} {bs rv : List Value} {v : Value} {w : World} (h : BA T 5 B b p bs rv v w) (hp : p = .pointer none \/ p = .pointer (some ⟨b, 0, none⟩)) (hn : rv.length + 2 = n) (hlies : liesAt prog prog.depth T (n / prog.cellsOf T) 0 51 1 = true)
  (s : ByteArray) (hlen : bs.length + s.size <= 140737488355328) (hBw : B <= w.heap.size) :
  Calls prog 90 #[.pointer (some ⟨b, 0, none⟩), .string s] w fun r w' => r = .returned (.tuple #[.int .i64 s.size, .nilIface]) /\ ∃ v', BA T 5 B b (.pointer (some ⟨b, 0, none⟩)) (bs ++ Lib.strCells s) rv v' w' /\ Fr b v.ownBlock w w' /\ (v'.ownBlock = v.ownBlock \/ v'.ownBlock = some w.heap.size) := by
 obtain ⟨i0, hi, hz0, hz1, hz2⟩ := info_parts (by kernel_rfl : (prog.info? 5).map (fun i => (i.zero, i.size, i.bytes)) = some (some (.int .u8 0), 1, 1));have mixed := (by kernel_rfl : prog.follows .mixedOrders = true)
 have t72 := underlying51; have a72 := isAgg51; have z72 := sizeOf51; have v72 := zeroValue51; have u72 := run_underlying underlying51;have t70 := underlying49; have a70 := isAgg49; have z70 := sizeOf49; have v70 := zeroValue49; have u70 := run_underlying underlying49;have t37 := underlying30; have a37 := isAgg30; have z37 := sizeOf30; have v37 := zeroValue30; have u37 := run_underlying underlying30;have t3 := underlying3; have a3 := isAgg3; have z3 := sizeOf3; have v3 := zeroValue3; have u3 := run_underlying underlying3;have t9 := underlying9; have a9 := isAgg9; have z9 := sizeOf9; have v9 := zeroValue9; have u9 := run_underlying underlying9;have t4 := underlying4; have a4 := isAgg4; have z4 := sizeOf4; have v4 := zeroValue4; have u4 := run_underlying underlying4;have t164 := underlying122; have a164 := isAgg122; have z164 := sizeOf122; have v164 := zeroValue122; have u164 := run_underlying underlying122;have t5 := underlying5; have a5 := isAgg5; have z5 := sizeOf5; have v5 := zeroValue5; have u5 := run_underlying underlying5;have e240 : ∀ args w, (callFunc 48 args).run prog w = .ok (.enter 48 args) w := enters_of func48 (by kernel_rfl) rfl
 go_enter func90, ntmps90
 go_wp2_with (go_at_fn 48; refine (RM h hp hn hlies).mono ?_)
 rintro e w1 ⟨rfl, h1, hf1, hs1⟩;have hbk := h1.blk;have hown := h1.row;have c0 : w1.cell? ⟨b, 0, none⟩ = some (.pointer (some ⟨b, 0, none⟩)) := by rw [Lib.cell_of_heap hbk]; rfl
 have c1 : w1.cell? ⟨b, 1, none⟩ = some v := by rw [Lib.cell_of_heap hbk]; rfl
 go_wp2_with (at_builtin; refine SA rfl _ _ 30 9 rfl B 5 i0 underlying30 underlying9 hi hz0 hz1 hz2 _ _ _ rfl hown s rfl ?c4 ?c5 ?_)
 case c4 => exact hlen
 case c5 => omega
 intro v' w2 hown' hgrow hblk;have hlt : b < w1.heap.size := h1.lt;have hb2 : w2.heap[b]? = some (.cells (.pointer (some ⟨b, 0, none⟩) :: v :: rv).toArray T (0, 0)) := by
  rw [hgrow.block b hlt (fun e => h1.rne e.symm)];exact hbk
 have d0 : w2.cell? ⟨b, 0, none⟩ = some (.pointer (some ⟨b, 0, none⟩)) := by rw [Lib.cell_of_heap hb2]; rfl
 have d1 : w2.cell? ⟨b, 1, none⟩ = some v := by rw [Lib.cell_of_heap hb2]; rfl
 have f1 : w2.frozen? ⟨b, 1, none⟩ = false := Lib.frozen_of_heap hb2 1;obtain ⟨ao, n', cap, rfl⟩ : ∃ ao n' cap, v' = .slice ao n' cap := by
  rcases hown'.2 with ⟨hv, _⟩ | ⟨g, cap, cur, hv, _⟩
  ·exact ⟨_, _, _, hv⟩
  ·exact ⟨_, _, _, hv⟩
 go_wp2
 go_ret2
 have hne : (Value.slice ao n' cap).ownBlock ≠ some b := Lib.ownBlock_ne hown' hb2 h.ne;refine ⟨rfl, _, ⟨h.hB, YC hb2, ?_, h.ne⟩, (hf1.trans (Fr.grown hgrow)).trans (Fr.setCell ..), hblk⟩;have hl : (bs ++ Lib.strCells s).length = bs.length + s.size := by rw [bm, Lib.strCells_length]
 rw [hl];exact hown'.kept (row := some b) ⟨rfl, rfl, rfl, by simp [World.setCell], fun k _ hk => Below.heap_setCell _ _ _ _ (fun e => hk (by simp [e]))⟩ (.inr hne)
set_option maxHeartbeats 2000000 in
set_option maxRecDepth 100000 in
theorem Aah {T : TypeId} {n : Nat} {B b : Nat} {p : Value} {bs rv : List Value} {v : Value} {w : World} (h : BA T 5 B b p bs rv v w) (hp : p = .pointer none \/ p = .pointer (some ⟨b, 0, none⟩)) (hn : rv.length + 2 = n) (hlies : liesAt prog prog.depth T (n / prog.cellsOf T) 0 51 1 = true)
  (c : Int) (hlen : bs.length + 1 <= 140737488355328) (hBw : B <= w.heap.size) :
  Calls prog 20 #[.pointer (some ⟨b, 0, none⟩), .int .u8 c] w fun r w' => r = .returned .nilIface /\ ∃ v', BA T 5 B b (.pointer (some ⟨b, 0, none⟩)) (bs ++ [.int .u8 c]) rv v' w' /\ Fr b v.ownBlock w w' /\ (v'.ownBlock = v.ownBlock \/ ∃ g, v'.ownBlock = some g /\ w.heap.size <= g) := by
 obtain ⟨i0, hi, hz0, hz1, hz2⟩ := info_parts (by kernel_rfl : (prog.info? 5).map (fun i => (i.zero, i.size, i.bytes)) = some (some (.int .u8 0), 1, 1));have mixed := (by kernel_rfl : prog.follows .mixedOrders = true)
 have t72 := underlying51; have a72 := isAgg51; have z72 := sizeOf51; have v72 := zeroValue51; have u72 := run_underlying underlying51;have t70 := underlying49; have a70 := isAgg49; have z70 := sizeOf49; have v70 := zeroValue49; have u70 := run_underlying underlying49;have t5 := underlying5; have a5 := isAgg5; have z5 := sizeOf5; have v5 := zeroValue5; have u5 := run_underlying underlying5;have t37 := underlying30; have a37 := isAgg30; have z37 := sizeOf30; have v37 := zeroValue30; have u37 := run_underlying underlying30;have t9 := underlying9; have a9 := isAgg9; have z9 := sizeOf9; have v9 := zeroValue9; have u9 := run_underlying underlying9;have t4 := underlying4; have a4 := isAgg4; have z4 := sizeOf4; have v4 := zeroValue4; have u4 := run_underlying underlying4;have t164 := underlying122; have a164 := isAgg122; have z164 := sizeOf122; have v164 := zeroValue122; have u164 := run_underlying underlying122;have e240 : ∀ args w, (callFunc 48 args).run prog w = .ok (.enter 48 args) w := enters_of func48 (by kernel_rfl) rfl
 go_enter func20, ntmps20
 go_wp2_with (go_at_fn 48; refine (RM h hp hn hlies).mono ?_)
 rintro e w1 ⟨rfl, h1, hf1, -⟩;have hsz := hf1.size;have hbk := h1.blk;have hown := h1.row;have c0 : w1.cell? ⟨b, 0, none⟩ = some (.pointer (some ⟨b, 0, none⟩)) := by rw [Lib.cell_of_heap hbk]; rfl
 have c1 : w1.cell? ⟨b, 1, none⟩ = some v := by rw [Lib.cell_of_heap hbk]; rfl
 go_wp2_with (at_builtin; refine TT rfl _ _ 30 rfl B 5 i0 underlying30 hi hz0 hz1 hz2 _ _ _ rfl (hown.alloc _) ⟨w1.heap.size, 0, none⟩ 1 1 [.int .u8 c] rfl rfl (by decide) ?c1 ?c2 ?c4 ?c5 ?_)
 case c1 =>
  intro j u hj
  match j, hj with
  | 0, hj => simp at hj; subst hj; simp [Addr.add]
 case c2 => intro u hu; simp at hu; subst hu; rfl
 case c4 => exact hlen
 case c5 => rw [World.size_alloc]; omega
 intro v' w2 hown' hgrow hblk;have hlt : b < w1.heap.size := h1.lt;have hb2 : w2.heap[b]? = some (.cells (.pointer (some ⟨b, 0, none⟩) :: v :: rv).toArray T (0, 0)) := by
  rw [hgrow.block b (by simp; omega) (fun e => h1.rne e.symm), Lib.alloc_old w1 _ b hlt];exact hbk
 have d0 : w2.cell? ⟨b, 0, none⟩ = some (.pointer (some ⟨b, 0, none⟩)) := by rw [Lib.cell_of_heap hb2]; rfl
 have d1 : w2.cell? ⟨b, 1, none⟩ = some v := by rw [Lib.cell_of_heap hb2]; rfl
 have f1 : w2.frozen? ⟨b, 1, none⟩ = false := Lib.frozen_of_heap hb2 1;obtain ⟨g, cap, rfl⟩ : ∃ g cap, v' = .slice (some ⟨g, 0, none⟩) (bs.length + 1) cap := by
  rcases hown'.2 with ⟨_, h0⟩ | ⟨g, cap, cur, hv, _⟩
  ·omega
  ·exact ⟨g, cap, hv⟩
 go_wp2
 go_ret
 have hne : (Value.slice (some ⟨g, 0, none⟩) (bs.length + 1) cap).ownBlock ≠ some b := Lib.ownBlock_ne hown' hb2 h.ne;refine ⟨rfl, _, ⟨h.hB, YC hb2, ?_, h.ne⟩, ((hf1.trans (Fr.alloc ..)).trans (Fr.grown hgrow)).trans (Fr.setCell ..), ?_⟩
 ·have hl : (bs ++ [Value.int .u8 c]).length = bs.length + 1 := by simp
  rw [hl];exact hown'.kept (row := some b) ⟨rfl, rfl, rfl, by simp [World.setCell], fun k _ hk => Below.heap_setCell _ _ _ _ (fun e => hk (by simp [e]))⟩ (.inr hne)
 ·rcases hblk with hblk | hblk
  ·exact .inl hblk
  ·exact .inr ⟨_, hblk, by omega⟩
set_option maxHeartbeats 1000000 in
set_option maxRecDepth 100000 in
theorem Xq {T e : TypeId} {B b : Nat} {p : Value} {bs rv : List Value} {v : Value} {w : World} (h : BA T e B b p bs rv v w) :
  Calls prog 21 #[.pointer (some ⟨b, 0, none⟩)] w fun r w' => r = .returned (.int .i64 bs.length) /\ w' = w := by
 obtain ⟨ao, cap, rfl⟩ : ∃ ao cap, v = .slice ao bs.length cap := by
  rcases h.row.2 with ⟨hv, h0⟩ | ⟨g, cap, cur, hv, _⟩
  ·exact ⟨none, 0, by rw [hv, h0]⟩
  ·exact ⟨_, _, hv⟩
 have c1 : w.cell? ⟨b, 1, none⟩ = some (.slice ao bs.length cap) := by rw [Lib.cell_of_heap h.blk]; rfl
 have mixed := (by kernel_rfl : prog.follows .mixedOrders = true)
 have t72 := underlying51; have a72 := isAgg51; have z72 := sizeOf51; have v72 := zeroValue51; have u72 := run_underlying underlying51;have t70 := underlying49; have a70 := isAgg49; have z70 := sizeOf49; have v70 := zeroValue49; have u70 := run_underlying underlying49;have t37 := underlying30; have a37 := isAgg30; have z37 := sizeOf30; have v37 := zeroValue30; have u37 := run_underlying underlying30;have t3 := underlying3; have a3 := isAgg3; have z3 := sizeOf3; have v3 := zeroValue3; have u3 := run_underlying underlying3
 go_enter func21, ntmps21
 go_wp2
 go_ret
 exact ⟨rfl, rfl⟩
set_option maxHeartbeats 2000000 in
set_option maxRecDepth 100000 in
theorem Qv {T : TypeId} {B b : Nat} {p : Value} {l : List By8} {rv : List Value} {v : Value} {w : World} (h : BA T 5 B b p (Lib.byteCells l) rv v w) (h0 : l ≠ []) :
  Calls prog 22 #[.pointer (some ⟨b, 0, none⟩)] w fun r w' => r = .returned (.string ⟨l.toArray⟩) /\ Fr b v.ownBlock w w' := by
 have hown := h.row;have hbk := h.blk;have hl0 : l.length ≠ 0 := by simpa using h0
 rw [Lib.byteCells_length] at hown;obtain ⟨g, cap, cur, rfl, hbg, hg, hnc, hcm, hcs, htake⟩ : ∃ g cap cur, v = .slice (some ⟨g, 0, none⟩) l.length cap /\ B <= g /\ w.heap[g]? = some (.cells cur 5 (0, 0)) /\ l.length <= cap /\ cap <= maxLen /\ cur.size = cap * 1 /\ cur.toList.take (l.length * 1) = Lib.byteCells l := by
  rcases hown.2 with ⟨_, hz⟩ | ⟨g, cap, cur, hv, r⟩
  ·exact absurd hz hl0
  ·exact ⟨g, cap, cur, hv, r⟩
 have c1 : w.drew.cell? ⟨b, 1, none⟩ = some (.slice (some ⟨g, 0, none⟩) l.length cap) := by
  have : w.drew.heap[b]? = some (.cells (p :: .slice (some ⟨g, 0, none⟩) l.length cap :: rv).toArray T (0, 0)) := hbk;rw [Lib.cell_of_heap this]; rfl
 have hSD : (Builtin.unsafeSliceData_ #[30] 89 #[.slice (some ⟨g, 0, none⟩) l.length cap]).run prog w.drew = .ok (.pointer (some ⟨g, 0, none⟩)) w.drew :=
  Lib.run_unsafeSliceData_row _ _ _ _ _ _ (by omega)
 have hUS : (Builtin.unsafeString_ #[89, 3] 9 #[.pointer (some ⟨g, 0, none⟩), .int .i64 l.length]).run prog w.drew = .ok (.string ⟨l.toArray⟩) (w.drew.freeze ⟨g, 0, none⟩ l.length) := by
  refine Lib.run_unsafeString_row w.drew 89 3 9 5 underlying89 (by kernel_rfl : prog.cellsOf 5 = 1) g cur.size (by have hg' : w.drew.heap[g]? = some (.cells cur 5 (0, 0)) := hg; simp [World.shape?, hg']) l h0 (by omega) (by unfold maxLen at hcm; omega) ?_;intro j x hx;have := hown.cells (g := g) rfl j (.int .u8 x.toNat) (by simp [Lib.byteCells, hx]);exact this
 have mixed := (by kernel_rfl : prog.follows .mixedOrders = true)
 have t72 := underlying51; have a72 := isAgg51; have z72 := sizeOf51; have v72 := zeroValue51; have u72 := run_underlying underlying51;have t70 := underlying49; have a70 := isAgg49; have z70 := sizeOf49; have v70 := zeroValue49; have u70 := run_underlying underlying49;have t37 := underlying30; have a37 := isAgg30; have z37 := sizeOf30; have v37 := zeroValue30; have u37 := run_underlying underlying30;have t127 := underlying89; have a127 := isAgg89; have z127 := sizeOf89; have v127 := zeroValue89; have u127 := run_underlying underlying89;have t3 := underlying3; have a3 := isAgg3; have z3 := sizeOf3; have v3 := zeroValue3; have u3 := run_underlying underlying3;have t9 := underlying9; have a9 := isAgg9; have z9 := sizeOf9; have v9 := zeroValue9; have u9 := run_underlying underlying9;have t5 := underlying5; have a5 := isAgg5; have z5 := sizeOf5; have v5 := zeroValue5; have u5 := run_underlying underlying5;have hfr : Fr b (some g) w (w.drew.freeze ⟨g, 0, none⟩ l.length) := by
  have e0 : w.drew.freeze ⟨g, 0, none⟩ l.length = if l.length = 0 then w.drew else { w.drew with heap := w.drew.heap.modify g fun
   | .cells c elem (lo, hi) => .cells c elem (if lo == hi then (0, 0 + l.length) else (min lo 0, max hi (0 + l.length)))
   | o => o } := rfl
  rw [e0, if_neg hl0];refine ⟨⟨rfl, rfl, rfl⟩, ?_, fun k hk _ hn => ?_⟩
  ·show w.heap.size <= (w.heap.modify g _).size;rw [Array.size_modify]; exact Nat.le_refl _
  ·have hk' : g ≠ k := fun e => hn (by rw [e]);show (w.heap.modify g _)[k]? = w.heap[k]?;rw [Array.getElem?_modify, if_neg hk']
 go_enter func22, ntmps22
 go_wp2
 go_region_o
 all_goals (go_wp2; go_ret; exact ⟨rfl, hfr⟩)
end

set_option linter.unusedSimpArgs false
set_option linter.unusedVariables false
open Go.RowKit Go.Shelf
def NE (t e : TypeId) (j : Nat) (bs : List By8) (rest : List D) (K : Kn) (w : World) (i : Nat) : Prop :=
 (j ≠ 0 -> j < K.nx) /\ ∃ (p v : Value) (rv : List Value), (p = .pointer none \/ p = .pointer (some ⟨K.io i, 0, none⟩)) /\ BA t e K.base (K.io i) p (Lib.byteCells bs) rv v w /\ rv.length = rest.length /\
  (∀ q, q < rest.length -> (rv.getD q undef).oneCell' = true /\ VR K (rv.getD q undef) (rest.getD q .any)) /\ v.ownBlock = (if j = 0 then none else some (K.io j))
def Lz (t e : TypeId) (j : Nat) (bs : List By8) (rest : List D) : Box where
 own K i b _ := b = K.io i \/ (j ≠ 0 /\ b = K.io j)
 cell q := if 2 <= q /\ (rest.getD (q - 2) .any).one = true then rest[q - 2]? else none
 ok := NE t e j bs rest
 lt K w i hok b o ho := by
  obtain ⟨hj, p, v, rv, _, hb, _, _, hv⟩ := hok;rcases ho with rfl | ⟨h0, rfl⟩
  ·exact hb.lt
  ·rw [if_neg h0] at hv; exact (hb.row.lt _ hv).2
 ext K K' w i E hi hok b o := by
  rw [E.io i hi];by_cases h0 : j = 0
  ·simp [h0]
  ·rw [E.io j (hok.1 h0)]
 keep K K' w w' i S E hi hk hS hok := by
  obtain ⟨hj, p, v, rv, hp, hb, hl, hr, hv⟩ := hok;refine ⟨fun h0 => Nat.lt_of_lt_of_le (hj h0) E.nx, p, v, rv, by rw [E.io i hi]; exact hp, ?_, hl, fun q hq => ⟨(hr q hq).1, (hr q hq).2.mono E⟩, ?_⟩
  ·rw [E.io i hi, E.base];refine ⟨hb.hB, ?_, ?_, hb.ne⟩
   ·rw [hk.obj _ hb.lt (fun o hs => hS _ _ hs (.inl rfl))]; exact hb.blk
   ·refine ⟨hb.row.1, ?_⟩;rcases hb.row.2 with h | ⟨g, cap, cur, rfl, h1, h2, h3⟩
    ·exact .inl h
    ·refine .inr ⟨g, cap, cur, rfl, h1, ?_, h3⟩;have hg : (if j = 0 then none else some (K.io j)) = some g := by rw [<- hv]; rfl
     by_cases h0 : j = 0
     ·rw [if_pos h0] at hg; cases hg
     ·rw [if_neg h0] at hg;injection hg with hg
      rw [hk.obj g (by have := (hb.row.lt g rfl).2; exact this) (fun o hs => hS _ _ hs (.inr ⟨h0, hg.symm⟩))]; exact h2
  ·by_cases h0 : j = 0
   ·rw [if_pos h0] at hv ⊢; exact hv
   ·rw [if_neg h0] at hv ⊢; rw [E.io j (hj h0)]; exact hv
 rd K w i hok q d hd := by
  obtain ⟨hj, p, v, rv, hp, hb, hl, hr, hv⟩ := hok;split at hd
  ·rename_i hc;obtain ⟨hq, rfl⟩ := List.getElem?_eq_some_iff.1 hd;obtain ⟨h1, h2⟩ := hr _ hq;obtain ⟨m, rfl⟩ : ∃ m, q = m + 2 := ⟨q - 2, by omega⟩
   simp only [Nat.add_sub_cancel] at hq h1 h2 ⊢;have hqr : m < rv.length := by omega
   have e1 : rv.getD m undef = rv[m] := by simp [List.getD, hqr]
   have e2 : rest.getD m .any = rest[m] := by simp [List.getD, hq]
   rw [e1] at h1 h2;rw [e2] at h2;exact ⟨rv[m], by simp [World.cell?, hb.blk, hqr], h1, h2⟩
  ·cases hd
section
variable {K : Kn} {h : Heap} {w : World}
theorem On {b : Nat} {row : Option Nat} {w' : World} (hf : Fr b row w w') {S : Nat -> Nat -> Prop} (hS : ∀ k o, k = b \/ some k = row -> S k o) : Keep w w' S := by
 have hb : ∀ k o, k < w.heap.size -> ¬ S k o -> w'.heap[k]? = w.heap[k]? := fun k o hk hs => hf.blk k hk (fun e => hs (hS _ _ (.inl e))) (fun e => hs (hS _ _ (.inr e)));exact ⟨fun k o hk hs => ⟨World.cell?_of_block (a := ⟨k, o, none⟩) (hb k o hk hs), World.frozen?_of_block (a := ⟨k, o, none⟩) (hb k o hk hs)⟩, fun k hk hs => hb k 0 hk (hs 0), hf.size, hf.ev.1, hf.ev.2.1, hf.ev.2.2⟩
theorem HR.bld (H : HR K h w) {i j : Nat} {t e : TypeId} {bs bs' : List By8} {rest : List D} (hx : h i = some (.box (Lz t e j bs rest))) {w' : World} {v v' : Value} {rv : List Value} (hl : rv.length = rest.length)
  (hr : ∀ q, q < rest.length -> (rv.getD q undef).oneCell' = true /\ VR K (rv.getD q undef) (rest.getD q .any)) (hv : v.ownBlock = (if j = 0 then none else some (K.io j))) (hf : Fr (K.io i) v.ownBlock w w')
  (hb : BA t e K.base (K.io i) (.pointer (some ⟨K.io i, 0, none⟩)) (Lib.byteCells bs') rv v' w') (hblk : v'.ownBlock = v.ownBlock \/ ∃ g, v'.ownBlock = some g /\ w.heap.size <= g) :
  ∃ K' j', Ext K K' /\ (j' = 0 -> bs' = []) /\ HR K' (h.upd i (some (.box (Lz t e j' bs' rest)))) w' := by
 have hok : NE t e j bs rest K w i := H.ok i _ hx;have hz0 : v'.ownBlock = none -> bs' = [] := fun hn => by
  rcases hb.row.2 with ⟨_, h0⟩ | ⟨g, cap, cur, rfl, _⟩
  ·rw [Lib.byteCells_length] at h0; exact List.length_eq_zero_iff.1 h0
  ·cases hn
 have hz : (0 : Nat) ≠ i := fun e => by have := H.z; rw [e, hx] at this; simp at this
 have hown : ∀ b o, own K i (.box (Lz t e j bs rest)) b o ↔ b = K.io i \/ (j ≠ 0 /\ b = K.io j) := fun _ _ => Iff.rfl
 have hkeep : Keep w w' (fun b _ => b = K.io i \/ (j ≠ 0 /\ b = K.io j)) := On hf (fun k o hk => by
  rcases hk with hk | hk
  ·exact .inl hk
  ·rw [hv] at hk;by_cases h0 : j = 0
   ·rw [if_pos h0] at hk; cases hk
   ·rw [if_neg h0] at hk; injection hk with hk; exact .inr ⟨h0, hk⟩)
 rcases hblk with hblk | ⟨g, hblk, hg⟩
 ·refine ⟨K, j, Ext.refl K, fun h0 => hz0 (by rw [hblk, hv, if_pos h0]), HR.change (C := fun q => q = i) H (Ext.refl K) hkeep (fun b o hs => ⟨i, _, rfl, hx, hs⟩) (fun q hq => .inl (Heap.upd_ne _ _ hq)) (fun b o v hv => .inl hv) (by rw [Heap.upd_ne _ _ hz]; exact H.z) (fun q y hq hy => ?_)⟩;subst hq;rw [Heap.upd_same] at hy;injection hy with hy
  subst hy;refine ⟨H.lt _ _ hx, ⟨hok.1, _, v', rv, .inr rfl, hb, hl, hr, by rw [hblk, hv]⟩, fun b o ho => ?_⟩;exact ⟨H.ge _ _ hx b o ho, H.nomu _ _ hx b o ho, fun j' y hj hy hoy => H.sep _ _ _ _ (fun e => hj e.symm) hx hy b o ho hoy, fun j' y hj hne _ => absurd hj hne⟩
 ·have E := Kn.withObj_ext K g 0;have hgi : g ≠ K.io i := fun e' => by
   obtain ⟨_, _, _, _, _, hb0, _⟩ := hok;have := hb0.lt;omega
  refine ⟨K.withObj g 0, K.nx, E, fun h0 => absurd h0 (by have := H.nz; omega), HR.change (C := fun q => q = i) H E hkeep (fun b o hs => ⟨i, _, rfl, hx, hs⟩) (fun q hq => .inl (Heap.upd_ne _ _ hq)) (fun b o v hv => .inl hv) (by rw [Heap.upd_ne _ _ hz]; exact H.z) (fun q y hq hy => ?_)⟩;subst hq;rw [Heap.upd_same] at hy;injection hy with hy
  subst hy;have hnz : K.nx ≠ 0 := by have := H.nz; omega
  have hio : (K.withObj g 0).io K.nx = g := by simp [Kn.withObj]
  have hioq : (K.withObj g 0).io q = K.io q := E.io q (H.lt _ _ hx);refine ⟨Nat.lt_of_lt_of_le (H.lt _ _ hx) E.nx, ⟨fun _ => by simp [Kn.withObj], _, v', rv, .inr rfl, by rw [hioq]; exact hb, hl, fun q' hq' => ⟨(hr q' hq').1, (hr q' hq').2.mono E⟩, by rw [if_neg hnz, hio]; exact hblk⟩, fun b o ho => ?_⟩;have ho' : b = (K.withObj g 0).io q \/ (K.nx ≠ 0 /\ b = (K.withObj g 0).io K.nx) := ho;rw [hioq, hio] at ho';rcases ho' with rfl | ⟨_, rfl⟩
  ·have hoi : own K q (.box (Lz t e j bs rest)) (K.io q) o := .inl rfl;exact ⟨H.ge _ _ hx _ o hoi, H.nomu _ _ hx _ o hoi, fun j' y hj hy hoy => H.sep _ _ _ _ (fun e => hj e.symm) hx hy _ o hoi hoy, fun j' y hj hne _ => absurd hj hne⟩
  ·refine ⟨Nat.le_trans H.bs hg, ?_, fun j' y _ hy hoy => absurd (G3 H hy hoy) (by omega), fun j' y hj hne _ => absurd hj hne⟩;show K.mu b o = none
   cases hm : K.mu b o with
   | none => rfl
   | some u => exact absurd (NJ H hm) (by omega)
theorem HR.bldNew (H : HR K h w) {i : Nat} {t e : TypeId} {rest : List D} (hx : h i = some (.box (SD t (.nilp :: .snil :: rest)))) (hne : t ≠ e) : HR K (h.upd i (some (.box (Lz t e 0 [] rest)))) w := by
 obtain ⟨c, hc, hs, hv⟩ : (SD t (.nilp :: .snil :: rest)).ok K w i := H.ok i _ hx;have hz : (0 : Nat) ≠ i := fun e => by have := H.z; rw [e, hx] at this; simp at this
 refine HR.change (C := fun q => q = i) H (Ext.refl K) (Keep.refl w (fun _ _ => False)) (fun b o hs => hs.elim) (fun q hq => .inl (Heap.upd_ne _ _ hq)) (fun b o v hv => .inl hv) (by rw [Heap.upd_ne _ _ hz]; exact H.z) (fun q y hq hy => ?_);subst hq;rw [Heap.upd_same] at hy;injection hy with hy
 subst hy;have hoi : ∀ o, own K q (.box (SD t (.nilp :: .snil :: rest))) (K.io q) o := fun _ => rfl;refine ⟨H.lt _ _ hx, ⟨fun h0 => absurd rfl h0, .pointer none, .slice none 0 0, c.toList.drop 2, .inl rfl, ⟨H.ge _ _ hx _ 0 (hoi 0), ?_, World.ownsRow_nil _ _ _ _, hne⟩, ?_, fun p hp => ?_, rfl⟩, fun b o ho => ?_⟩
 ·rw [hc];obtain ⟨l⟩ := c;have h0 := hv 0 (by simp);have h1 := hv 1 (by simp)
  match l, hs with
  | a :: b :: r, hs =>
   have ea : VR K a .nilp := by simpa using h0.2
   have eb : VR K b .snil := by simpa using h1.2
   cases ea; cases eb;rfl
  | [], hs => simp at hs
  | [_], hs => simp at hs
 ·simp; simp at hs; omega
 ·have := hv (p + 2) (by simp; omega);have e1 : (c.toList.drop 2).getD p undef = c.getD (p + 2) undef := by
   simp only [List.getD_eq_getElem?_getD, List.getElem?_drop, Array.getElem?_toList, Array.getD_eq_getD_getElem?];rw [Nat.add_comm]
  rw [e1];simpa using this
 ·have ho' : b = K.io q \/ ((0 : Nat) ≠ 0 /\ b = K.io 0) := ho;rcases ho' with rfl | ⟨h0, _⟩
  ·exact ⟨H.ge _ _ hx _ o (hoi o), H.nomu _ _ hx _ o (hoi o), fun j' y hj hy hoy => H.sep _ _ _ _ (fun e => hj e.symm) hx hy _ o (hoi o) hoy, fun j' y hj hne _ => absurd hj hne⟩
  ·exact absurd rfl h0
end
section
variable  {h : Heap}
theorem Ph (bs s : List By8) : Lib.byteCells bs ++ Lib.strCells ⟨s.toArray⟩ = Lib.byteCells (bs ++ s) := by simp [Lib.byteCells, Lib.strCells]
theorem JI (hent : Ds prog 90 = true) {i j : Nat} {t : TypeId} {bs s : List By8} {rest : List D} (hx : h i = some (.box (Lz t 5 j bs rest))) (hlies : liesAt prog prog.depth t ((rest.length + 2) / prog.cellsOf t) 0 51 1 = true) (hlen : bs.length + s.length <= 140737488355328)
  {R : D -> Heap -> Prop} (hk : ∀ j', (j' = 0 -> bs ++ s = []) -> R (.tup [.int .i64 s.length, .inil]) (h.upd i (some (.box (Lz t 5 j' (bs ++ s) rest))))) : CallsA prog 90 [.ptr i 0, .str s] h R := by
 refine .inl ⟨hent, fun K w vs H hl hv => ?_⟩;obtain ⟨hj, p, v, rv, hp, hb, hrl, hr, hvb⟩ : NE t 5 j bs rest K w i := H.ok i _ hx;obtain rfl : vs = #[.pointer (some ⟨K.io i, 0, none⟩), .string ⟨s.toArray⟩] := by
  rw [TM hl, Fi (hv 1)];have h0 := hv 0;generalize vs.getD 0 undef = x at h0;have h0' : VR K x (.ptr i 0) := h0;cases h0'; rfl
 have hbl : (Lib.byteCells bs).length = bs.length := Lib.byteCells_length bs;refine (Aae hb hp (by rw [hrl]) hlies ⟨s.toArray⟩ (by rw [hbl]; simpa [ByteArray.size] using hlen) H.bs).mono ?_;rintro r w' ⟨rfl, v', hb', hf, hblk⟩;rw [Ph] at hb';obtain ⟨K', j', E, hz, H'⟩ := H.bld hx hrl hr hvb hf hb' (hblk.imp id fun h => ⟨_, h, Nat.le_refl _⟩);refine ⟨_, _, K', _, rfl, E, H', .tup _ _ rfl fun q => ?_, hk j' hz⟩
 match q with
 | 0 => exact .int _ _
 | 1 => exact .inil
 | q + 2 => exact .any _
theorem Ma (hent : Ds prog 20 = true) {i j : Nat} {t : TypeId} {bs : List By8} {c : By8} {rest : List D} (hx : h i = some (.box (Lz t 5 j bs rest))) (hlies : liesAt prog prog.depth t ((rest.length + 2) / prog.cellsOf t) 0 51 1 = true) (hlen : bs.length + 1 <= 140737488355328)
  {R : D -> Heap -> Prop} (hk : ∀ j', (j' = 0 -> bs ++ [c] = []) -> R .inil (h.upd i (some (.box (Lz t 5 j' (bs ++ [c]) rest))))) : CallsA prog 20 [.ptr i 0, .int .u8 (c.toNat : Int)] h R := by
 refine .inl ⟨hent, fun K w vs H hl hv => ?_⟩;obtain ⟨hj, p, v, rv, hp, hb, hrl, hr, hvb⟩ : NE t 5 j bs rest K w i := H.ok i _ hx;obtain rfl : vs = #[.pointer (some ⟨K.io i, 0, none⟩), .int .u8 (c.toNat : Int)] := by
  rw [TM hl, Ke (hv 1)];have h0 := hv 0;generalize vs.getD 0 undef = x at h0;have h0' : VR K x (.ptr i 0) := h0;cases h0'; rfl
 have hbl : (Lib.byteCells bs).length = bs.length := Lib.byteCells_length bs;refine (Aah hb hp (by rw [hrl]) hlies (c.toNat : Int) (by rw [hbl]; exact hlen) H.bs).mono ?_;rintro r w' ⟨rfl, v', hb', hf, hblk⟩;have eb : Lib.byteCells bs ++ [.int .u8 (c.toNat : Int)] = Lib.byteCells (bs ++ [c]) := by simp [Lib.byteCells]
 rw [eb] at hb';obtain ⟨K', j', E, hz, H'⟩ := H.bld hx hrl hr hvb hf hb' hblk;exact ⟨_, _, K', _, rfl, E, H', .inil, hk j' hz⟩
theorem XQ (hent : Ds prog 21 = true) {i j : Nat} {t e : TypeId} {bs : List By8} {rest : List D} (hx : h i = some (.box (Lz t e j bs rest)))
  {R : D -> Heap -> Prop} (hk : R (.int .i64 bs.length) h) : CallsA prog 21 [.ptr i 0] h R := by
 refine .inl ⟨hent, fun K w vs H hl hv => ?_⟩;obtain ⟨hj, p, v, rv, hp, hb, hrl, hr, hvb⟩ : NE t e j bs rest K w i := H.ok i _ hx;obtain rfl : vs = #[.pointer (some ⟨K.io i, 0, none⟩)] := by
  rw [Ky hl];have h0 := hv 0;generalize vs.getD 0 undef = x at h0;have h0' : VR K x (.ptr i 0) := h0;cases h0'; rfl
 refine (Xq hb).mono ?_;rintro r w' ⟨rfl, rfl⟩;exact ⟨_, _, K, _, rfl, Ext.refl K, H, by rw [Lib.byteCells_length]; exact .int _ _, hk⟩
theorem Qj (hent : Ds prog 22 = true) {i j : Nat} {t : TypeId} {bs : List By8} {rest : List D} (hx : h i = some (.box (Lz t 5 j bs rest))) (hne : bs ≠ [])
  {R : D -> Heap -> Prop} (hk : R (.str bs) (h.upd i none)) : CallsA prog 22 [.ptr i 0] h R := by
 refine .inl ⟨hent, fun K w vs H hl hv => ?_⟩;obtain ⟨hj, p, v, rv, hp, hb, hrl, hr, hvb⟩ : NE t 5 j bs rest K w i := H.ok i _ hx;obtain rfl : vs = #[.pointer (some ⟨K.io i, 0, none⟩)] := by
  rw [Ky hl];have h0 := hv 0;generalize vs.getD 0 undef = x at h0;have h0' : VR K x (.ptr i 0) := h0;cases h0'; rfl
 refine (Qv hb hne).mono ?_;rintro r w' ⟨rfl, hf⟩
 have hkeep : Keep w w' (fun b _ => b = K.io i \/ (j ≠ 0 /\ b = K.io j)) := On hf (fun k o hk => by
  rcases hk with hk | hk
  ·exact .inl hk
  ·rw [hvb] at hk;by_cases h0 : j = 0
   ·rw [if_pos h0] at hk; cases hk
   ·rw [if_neg h0] at hk; injection hk with hk; exact .inr ⟨h0, hk⟩)
 have hz : (0 : Nat) ≠ i := fun e => by have := H.z; rw [e, hx] at this; simp at this
 have H' : HR K (h.upd i none) w' := HR.change (C := fun q => q = i) H (Ext.refl K) hkeep (fun b o hs => ⟨i, _, rfl, hx, hs⟩) (fun q hq => .inl (Heap.upd_ne _ _ hq)) (fun b o v hv => .inl hv) (by rw [Heap.upd_ne _ _ hz]; exact H.z) (fun q y hq hy => by
  subst hq;rw [Heap.upd_same] at hy
  cases hy)
 exact ⟨_, _, K, _, rfl, Ext.refl K, H', .str bs, hk⟩
end

set_option linter.unusedSimpArgs false
set_option linter.unusedVariables false
open Go.RowKit Go.Shelf
theorem Exit.blk_nrm {i : Nat} {Q : Exit -> St -> Prop} {s : St} (h : Q .normal s) : Exit.blk i Q .normal s := h
def BW (q t e j : Nat) (bs : List By8) (rest : List D) : Nat × AObj := (q, .box (Lz t e j bs rest))
def gdL (n : Nat) : Option Unit := if n <= 140737488355328 then some () else none
theorem Ic {n : Nat} {u : Unit} (h : gdL n = some u) : n <= 140737488355328 := by
 unfold gdL at h;split at h
 ·assumption
 ·cases h
def gdN {α : Type} (s : List α) : Option Unit := if s.isEmpty then none else some ()
theorem Ra {α : Type} {s : List α} {u : Unit} (h : gdN s = some u) : s ≠ [] := by
 unfold gdN at h;split at h
 ·cases h
 ·rename_i hn; intro e; subst e; exact hn rfl
section
variable  {h : Heap} {O : List (Nat × AObj)} {q j : Nat} {t : TypeId} {bs : List By8} {rest : List D}
theorem UC (hent : Ds prog 90 = true) {s : List By8} (hlies : liesAt prog prog.depth t ((rest.length + 2) / prog.cellsOf t) 0 51 1 = true) (hq : q ≠ 0) (hlen : bs.length + s.length <= 140737488355328)
  (ok : OK h (BW q t 5 j bs rest :: (0, .room) :: O)) {R : D -> Heap -> Prop} (hk : ∀ j', (j' = 0 -> bs ++ s = []) -> OK h (BW q t 5 j' (bs ++ s) rest :: (0, .room) :: O) -> R (.tup [.int .i64 s.length, .inil]) (Hp h (BW q t 5 j' (bs ++ s) rest :: (0, .room) :: O))) :
  CallsA prog 90 [.ptr q 0, .str s] (Hp h (BW q t 5 j bs rest :: (0, .room) :: O)) R :=
 JI hent (Hp_get 0 ok rfl hq) hlies hlen fun j' hz => by
  obtain ⟨e1, e2⟩ := Hp_set (y := .box (Lz t 5 j' (bs ++ s) rest)) 0 ok rfl hq;rw [e1];exact hk j' hz e2
theorem VB (hent : Ds prog 20 = true) {c : By8} (hlies : liesAt prog prog.depth t ((rest.length + 2) / prog.cellsOf t) 0 51 1 = true) (hq : q ≠ 0) (hlen : bs.length + 1 <= 140737488355328)
  (ok : OK h (BW q t 5 j bs rest :: (0, .room) :: O)) {R : D -> Heap -> Prop} (hk : ∀ j', (j' = 0 -> bs ++ [c] = []) -> OK h (BW q t 5 j' (bs ++ [c]) rest :: (0, .room) :: O) -> R .inil (Hp h (BW q t 5 j' (bs ++ [c]) rest :: (0, .room) :: O))) :
  CallsA prog 20 [.ptr q 0, .int .u8 (c.toNat : Int)] (Hp h (BW q t 5 j bs rest :: (0, .room) :: O)) R :=
 Ma hent (Hp_get 0 ok rfl hq) hlies hlen fun j' hz => by
  obtain ⟨e1, e2⟩ := Hp_set (y := .box (Lz t 5 j' (bs ++ [c]) rest)) 0 ok rfl hq;rw [e1];exact hk j' hz e2
theorem Si (hent : Ds prog 21 = true) {e : TypeId} (hq : q ≠ 0) (ok : OK h (BW q t e j bs rest :: (0, .room) :: O)) {R : D -> Heap -> Prop} (hk : R (.int .i64 bs.length) (Hp h (BW q t e j bs rest :: (0, .room) :: O))) :
  CallsA prog 21 [.ptr q 0] (Hp h (BW q t e j bs rest :: (0, .room) :: O)) R :=
 XQ hent (Hp_get 0 ok rfl hq) hk
theorem Tg (hent : Ds prog 22 = true) (hq : q ≠ 0) (hne : bs ≠ []) (ok : OK h (BW q t 5 j bs rest :: (0, .room) :: O)) {R : D -> Heap -> Prop}
  (hk : OK h ((0, .room) :: (0, .room) :: O) -> R (.str bs) (Hp h ((0, .room) :: (0, .room) :: O))) :
  CallsA prog 22 [.ptr q 0] (Hp h (BW q t 5 j bs rest :: (0, .room) :: O)) R :=
 Qj hent (Hp_get 0 ok rfl hq) hne (by
  obtain ⟨e1, e2⟩ := Hp_rel 0 ok rfl hq;rw [e1]
  exact hk e2)
end
section
variable {P : Program} {md : Nat -> Nat} {w : Bool} {ops : Array Oper} {os : List Oper} {k : St -> Prop} {n : Nat} {l : List (Nat × D)} {h : Heap} {d : Nat} {t ty : TypeId} {pos : String} {af : Array Edge} {x y z : Operand} {O : List (Nat × AObj)}
theorem RP {q t2 e m j off : Nat} {bs : List By8} {rest : List D} {v : D} (ok : OK h O) (hm : md d = 0) (hx : opL n l x = .ptr q off) (hj : O[j]? = some (BW q t2 e m bs rest)) (hq : q ≠ 0) (ho : Nat.ble 2 off = true) (hr : rest[off - 2]? = some v) (h1 : v.one = true) (hp : DR P t [v] = some v)
  (hk : AO P md w ops os ⟨AH n ((d, v) :: l), Hp h O⟩ k) : AO P md w ops (⟨some d, .load t x, ty, pos, af, none⟩ :: os) ⟨AH n l, Hp h O⟩ k := E4 (by
 have hc : (Lz t2 e m bs rest).cell off = some v := by
  show (if 2 <= off /\ (rest.getD (off - 2) .any).one = true then rest[off - 2]? else none) = some v;have e1 : rest.getD (off - 2) .any = v := by rw [List.getD_eq_getElem?_getD, hr]; rfl
  rw [e1, if_pos ⟨Nat.le_of_ble_eq_true ho, h1⟩, hr]
 simp only [BB, hx, hm, Ol, GW, Hp_get j ok hj hq, hc, Option.map_some, ba, hp, OptP_some]; exact hk)
theorem VL {v : D} {e : TypeId} {rest : List D} (ok : OK h O) (hm : md d = 7) (hx : opL n l x = v) (h1 : v.lay = true) (h2 : v.cells = .nilp :: .snil :: rest) (hne : t ≠ e)
  (hk : ∀ i, i ≠ 0 -> OK h (BW i t e 0 [] rest :: (0, .room) :: O) -> AO P md true ops os ⟨AH n ((d, .ptr i 0) :: l), Hp h (BW i t e 0 [] rest :: (0, .room) :: O)⟩ k) : AO P md true ops (⟨some d, .box t x, ty, pos, af, none⟩ :: os) ⟨AH n l, Hp h O⟩ k := E4 (by
 subst hx;simp only [BB, hm, Tz];refine ⟨h1, fun i hf hi => ?_⟩;rw [h2];have ok0 := OK_nil ok;have e0 : Hp h O = Hp h ((0, .room) :: O) := by simp [Hp]
 rw [e0] at hf ⊢;obtain ⟨e1, e2⟩ := Hp_new (x := .box (SD t (.nilp :: .snil :: rest))) ok0 hf hi;rw [e1];refine VI fun df K a u S => ?_;obtain ⟨e3, e4⟩ := Hp_set (y := .box (Lz t e 0 [] rest)) 0 e2 rfl hi;have H' := S.h.bldNew (e := e) (Hp_get 0 e2 rfl hi) hne;rw [e3] at H'
 exact ⟨K, ⟨AH n ((d, .ptr i 0) :: l), Hp h (BW i t e 0 [] rest :: (0, .room) :: O)⟩, Ext.refl K, ⟨H', S.d, S.n, S.v⟩, hk i hi e4⟩)
end
section
variable {h : Heap} {O : List (Nat × AObj)} {q j : Nat} {bs : List By8} {r0 : D}
theorem Sa (r0 : D) : liesAt prog prog.depth 53 ((([r0] : List D).length + 2) / prog.cellsOf 53) 0 51 1 = true := by
 have h : liesAt prog prog.depth 53 ((1 + 2) / prog.cellsOf 53) 0 51 1 = true := by kernel_rfl
 rw [show ([r0] : List D).length = 1 from rfl]; exact h
theorem XN {s : List By8} (hq : q ≠ 0) (hlen : bs.length + s.length <= 140737488355328) (ok : OK h (BW q 53 5 j bs [r0] :: (0, .room) :: O)) {R : D -> Heap -> Prop}
  (hk : ∀ j', (j' = 0 -> bs ++ s = []) -> OK h (BW q 53 5 j' (bs ++ s) [r0] :: (0, .room) :: O) -> R (.tup [.int .i64 s.length, .inil]) (Hp h (BW q 53 5 j' (bs ++ s) [r0] :: (0, .room) :: O))) :
  CallsA prog 90 [.ptr q 0, .str s] (Hp h (BW q 53 5 j bs [r0] :: (0, .room) :: O)) R := UC (by kernel_rfl) (Sa r0) hq hlen ok hk
theorem W8 {c : By8} (hq : q ≠ 0) (hlen : bs.length + 1 <= 140737488355328) (ok : OK h (BW q 53 5 j bs [r0] :: (0, .room) :: O)) {R : D -> Heap -> Prop}
  (hk : ∀ j', (j' = 0 -> bs ++ [c] = []) -> OK h (BW q 53 5 j' (bs ++ [c]) [r0] :: (0, .room) :: O) -> R .inil (Hp h (BW q 53 5 j' (bs ++ [c]) [r0] :: (0, .room) :: O))) :
  CallsA prog 20 [.ptr q 0, .int .u8 (c.toNat : Int)] (Hp h (BW q 53 5 j bs [r0] :: (0, .room) :: O)) R := VB (by kernel_rfl) (Sa r0) hq hlen ok hk
theorem Sk (hq : q ≠ 0) (ok : OK h (BW q 53 5 j bs [r0] :: (0, .room) :: O)) {R : D -> Heap -> Prop} (hk : R (.int .i64 bs.length) (Hp h (BW q 53 5 j bs [r0] :: (0, .room) :: O))) :
  CallsA prog 21 [.ptr q 0] (Hp h (BW q 53 5 j bs [r0] :: (0, .room) :: O)) R := Si (by kernel_rfl) hq ok hk
theorem SP (hq : q ≠ 0) (hne : bs ≠ []) (ok : OK h (BW q 53 5 j bs [r0] :: (0, .room) :: O)) {R : D -> Heap -> Prop} (hk : OK h ((0, .room) :: (0, .room) :: O) -> R (.str bs) (Hp h ((0, .room) :: (0, .room) :: O))) :
  CallsA prog 22 [.ptr q 0] (Hp h (BW q 53 5 j bs [r0] :: (0, .room) :: O)) R := Tg (by kernel_rfl) hq hne ok hk
end

set_option linter.unusedSimpArgs false
set_option linter.unusedVariables false
def L_referText (s : List By8) : Option (List By8) := if s.length <= 4294967296 then some (s.flatMap escT) else none
theorem L_referText_w (p0 : List By8) {G : List By8 -> Prop} (h : Heap) (hF : OptP (L_referText p0) G) : CallsA prog 46 [.str p0] h fun d h' => ∃ r, G r /\ d = .str r /\ h' = h := by
 obtain ⟨r, hr, hG⟩ := hF;obtain ⟨h0, rfl⟩ := ifO hr;refine Ea (d := .str (p0.flatMap escT)) (by kernel_rfl) ⟨_, hG, rfl, rfl⟩ fun K w vs H hl hv => ?_;obtain rfl : vs = #[.string ⟨p0.toArray⟩] := by rw [Ky hl, Fi (hv 0)]
 refine (Vm ⟨p0.toArray⟩ w (by rw [GQ]; exact h0)).mono fun e w' ⟨he, hb⟩ => ?_;rw [show D5 prT = escT from funext UF] at he;exact ⟨_, K, he, Ext.refl K, H.under hb, .str _⟩
theorem L_referText_ok {β : Type} {f : List By8 -> Option β} {G : β -> Prop} {R : D -> Heap -> Prop} {p0 : List By8} (h : Heap) (hF : OptP ((L_referText p0).bind f) G) (hk : ∀ r, L_referText p0 = some r -> OptP (f r) G -> R (.str r) h) : CallsA prog 46 [.str p0] h R :=
 B6 (enc := fun r => .str r) (fun G h hF => L_referText_w p0 h hF) h hF hk
def L_referQuote (s : List By8) : Option (List By8) := (if s.length <= 4294967296 then some (s.flatMap escQ) else none)
theorem L_referQuote_w (p0 : List By8) {G : List By8 -> Prop} (h : Heap) (hF : OptP (L_referQuote p0) G) : CallsA prog 95 [.str p0] h fun d h' => ∃ r, G r /\ d = .str r /\ h' = h := by
 obtain ⟨r, hr, hG⟩ := hF;obtain ⟨h0, rfl⟩ := ifO hr;refine Ea (d := .str (p0.flatMap escQ)) (by kernel_rfl) ⟨_, hG, rfl, rfl⟩ fun K w vs H hl hv => ?_;obtain rfl : vs = #[.string ⟨p0.toArray⟩] := by rw [Ky hl, Fi (hv 0)]
 refine (Ty ⟨p0.toArray⟩ w (by rw [GQ]; exact h0)).mono fun e w' ⟨he, hb⟩ => ?_;rw [show D5 prQ = escQ from funext UP] at he;exact ⟨_, K, he, Ext.refl K, H.under hb, .str _⟩
theorem L_referQuote_ok {β : Type} {f : List By8 -> Option β} {G : β -> Prop} {R : D -> Heap -> Prop} {p0 : List By8} (h : Heap) (hF : OptP ((L_referQuote p0).bind f) G) (hk : ∀ r, L_referQuote p0 = some r -> OptP (f r) G -> R (.str r) h) : CallsA prog 95 [.str p0] h R :=
 B6 (enc := fun r => .str r) (fun G h hF => L_referQuote_w p0 h hF) h hF hk

set_option linter.unusedSimpArgs false
set_option linter.unusedVariables false
open Go.RowKit Go.Shelf Go.Sort
section
variable {h : Heap} {O : List (Nat × AObj)} {K : Kn} {w : World}
theorem Keep.putS (w : World) (blk n : Nat) (d : Array (List By8)) (os : Array Obj) : Keep w (grow (putRow encStr (Sort.ahead w n) blk 0 d) os) (fun b _ => b = blk) := by
 refine ⟨fun b o hb hS => ?_, fun b hb hS => ?_, by simp [grow, putRow, mapBlock, Sort.ahead], rfl, rfl, rfl⟩
 ·have hlt : b < (putRow encStr (Sort.ahead w n) blk 0 d).heap.size := by simpa [putRow, mapBlock, Sort.ahead] using hb
  refine ⟨?_, ?_⟩
  ·rw [cell?_grow _ _ _ hlt];exact cell?_putRow_other encStr (Sort.ahead w n) blk 0 d ⟨b, o, none⟩ (.inl hS)
  ·rw [frozen?_grow _ _ _ hlt];exact frozen?_putRow encStr (Sort.ahead w n) blk 0 d ⟨b, o, none⟩
 ·have hne : blk ≠ b := fun e => hS 0 e.symm;have hlt : b < (putRow encStr (Sort.ahead w n) blk 0 d).heap.size := by simpa [putRow, mapBlock, Sort.ahead] using hb
  rw [heap_grow_old _ _ hlt];simp [putRow, mapBlock, Sort.ahead, Array.getElem?_modify, hne]
theorem Pr (e : List (List By8)) (j : Nat) : (fl Am e).getD j .any = if j < e.length then .str (e.getD j []) else .any := by
 have hf : fl Am e = e.map .str := by
  induction e with
  | nil => rfl
  | cons a e ih => show Am a ++ fl Am e = _; rw [ih]; rfl
 rw [hf];split
 ·rename_i hj; simp [List.getD, hj]
 ·rename_i hj; simp [List.getD, hj]
theorem Mh (e : List (List By8)) : (fl Am e).length = e.length := by have := Fp (c := Am) (q := 1) (fun _ => rfl) e; omega
theorem IE {id : Nat} {e : List (List By8)} (H : HR K h w) (hx : h id = some (.cells (fl Am e))) : K.io id < w.heap.size /\ Holds encStr w (K.io id) 0 e.toArray := by
 obtain ⟨hlen, hcells, ⟨s, hsh⟩, hfz⟩ := H.ok id _ hx;have hblk : K.io id < w.heap.size := by
  rcases Nat.lt_or_ge (K.io id) w.heap.size with h | h
  ·exact h
  ·simp [World.shape?, Array.getElem?_eq_none h] at hsh
 refine ⟨hblk, fun j hj => ?_⟩;rw [Mh] at hlen;have hj' : j < e.length := by simpa using hj
 obtain ⟨v, h1, h2, h3⟩ := hcells j (by omega);rw [Pr, if_pos hj'] at h3;rw [Nat.zero_add, h1, hfz j];refine ⟨?_, rfl⟩;have e1 : e.toArray[j]! = e.getD j [] := by simp [List.getD, hj']
 rw [e1];rw [Fi h3]
theorem HR.putS {id : Nat} {e e2 pad : List (List By8)} (H : HR K h w) (hx : h id = some (.cells (fl Am e))) (hl : e2.length + pad.length = e.length) (n : Nat) (os : Array Obj) :
  HR K (h.upd id (some (.cells (fl Am e2)))) (grow (putRow encStr (Sort.ahead w n) (K.io id) 0 (e2 ++ pad).toArray) os) := by
 obtain ⟨hblk, hH⟩ := IE H hx;obtain ⟨hlen, hcells, ⟨s, hsh⟩, hfz⟩ := H.ok id _ hx;have hz : (0 : Nat) ≠ id := fun e => by have := H.z; rw [e, hx] at this; simp at this
 rw [Mh] at hlen;have hlt : K.io id < (putRow encStr (Sort.ahead w n) (K.io id) 0 (e2 ++ pad).toArray).heap.size := by simpa [putRow, mapBlock, Sort.ahead] using hblk
 have hcl : ∀ o, (grow (putRow encStr (Sort.ahead w n) (K.io id) 0 (e2 ++ pad).toArray) os).cell? ⟨K.io id, o, none⟩ = (putRow encStr (Sort.ahead w n) (K.io id) 0 (e2 ++ pad).toArray).cell? ⟨K.io id, o, none⟩ := fun o => cell?_grow _ _ _ hlt;refine HR.change (C := fun q => q = id) H (Ext.refl K) (Keep.putS w (K.io id) n _ os) (fun b o hs => ⟨id, _, rfl, hx, hs⟩) (fun q hq => .inl (Heap.upd_ne _ _ hq)) (fun b o v hv => .inl hv) (by rw [Heap.upd_ne _ _ hz]; exact H.z) (fun q y hq hy => ?_);subst hq;rw [Heap.upd_same] at hy;injection hy with hy
 subst hy;refine ⟨H.lt _ _ hx, ⟨by rw [Mh]; omega, fun j hj => ?_, ⟨s, ?_⟩, fun o => ?_⟩, fun b o ho => ⟨H.ge _ _ hx b o ho, H.nomu _ _ hx b o ho, fun j' y hj hy hoy => H.sep _ _ _ _ (fun e => hj e.symm) hx hy b o ho hoy, fun j' y hj hne _ => absurd hj hne⟩⟩
 ·rw [hcl];by_cases hje : j < e.length
  ·have h1 := cell?_putRow encStr (Sort.ahead w n) (K.io q) 0 e.toArray (e2 ++ pad).toArray (holds_ahead encStr w n (K.io q) 0 _ hH) (by simp; omega) j (by simp; omega);rw [Nat.zero_add] at h1;rw [h1];refine ⟨_, rfl, rfl, ?_⟩;rw [Pr];by_cases hj2 : j < e2.length
   ·rw [if_pos hj2];have e1 : (e2 ++ pad).toArray[j]! = e2.getD j [] := by
     have hlt2 : j < (e2 ++ pad).length := by simp; omega
     rw [List.getD_eq_getElem?_getD, List.getElem?_eq_getElem hj2];rw [getElem!_pos _ j (by simpa using hlt2)];simp [List.getElem_append_left hj2]
    rw [e1]; exact .str _
   ·rw [if_neg hj2]; exact .any _
  ·obtain ⟨v, h1, h2, h3⟩ := hcells j hj;refine ⟨v, ?_, h2, by rw [Pr, if_neg (by omega)]; exact .any _⟩;rw [cell?_putRow_other encStr (Sort.ahead w n) (K.io q) 0 _ ⟨K.io q, j, none⟩ (.inr (.inr (by simp; omega)))];exact h1
 ·have e1 : (grow (putRow encStr (Sort.ahead w n) (K.io q) 0 (e2 ++ pad).toArray) os).shape? (K.io q) = (putRow encStr (Sort.ahead w n) (K.io q) 0 (e2 ++ pad).toArray).shape? (K.io q) := by
   simp only [World.shape?]; rw [heap_grow_old _ _ hlt]
  rw [e1, <- hsh];simp only [World.shape?, putRow, mapBlock, Sort.ahead, Array.getElem?_modify, if_true]
  cases w.heap[K.io q]? with
  | none => rfl
  | some o => cases o <;> simp [onCells, putCells]
 ·rw [frozen?_grow _ _ _ hlt];exact (frozen?_putRow encStr (Sort.ahead w n) (K.io q) 0 _ _).trans (hfz o)
theorem YD {v : Value} {q id n : Nat} {vs : Array Value} (hl : vs.size = 1) (h0 : VR K (vs.getD 0 undef) (.msl q id 0 n)) : ∃ cap, n <= cap /\ vs = #[.slice (some ⟨K.io id, 0, none⟩) n cap] /\ id < K.nx /\ cap * q <= K.sz id := by
 have hvs : vs = #[vs.getD 0 undef] := Ky hl;rw [hvs];generalize vs.getD 0 undef = x at h0
 cases h0 with
 | msl _ _ _ _ cap hlt hn hcap => exact ⟨cap, hn, rfl, hlt, by omega⟩
theorem Tt (w : World) : Calls prog 142 #[.slice none 0 0, .int .i64 0, .int .i64 0] w fun e w' => e = .returned (.tuple #[]) /\ w' = w := by
 go_enter func142, ntmps142
 go_wp2
 refine wp_loop_rounds 1 ?_;rw [rounds_succ]
 go_wp2
 go_end0
 exact ⟨rfl, rfl⟩
set_option maxRecDepth 100000 in
theorem Tf (w : World) : Calls prog 103 #[.slice none 0 0, .int .i64 0, .int .i64 0, .int .i64 0] w fun e w' => e = .returned (.tuple #[]) /\ w' = w := by
 go_enter func103, ntmps103
 go_wp2
 refine wp_loop_rounds 1 ?_;rw [rounds_succ]
 go_wp2_with (first | (go_at_call 142; refine (Tt _).mono ?_; rintro e w' ⟨rfl, rfl⟩))
 refine bodyPost_ret (results_none rfl _ _ _) rfl ?_;exact ⟨rfl, rfl⟩
set_option maxRecDepth 100000 in
theorem SC (w : World) : Calls prog 63 #[.slice none 0 0] w fun e w' => e = .returned (.tuple #[]) /\ w' = w := by
 have hLen : ∀ w, Calls prog 104 #[.int .u64 0] w fun e w' => e = .returned (.int .i64 0) /\ w' = w := fun w => Any.bits_Len (P := prog) (ρ := Tryz.lays190_ren) { Tryz.lays190 with } 0 w (by omega) (by omega)
 go_enter func63, ntmps63
 go_wp2_with (first
  | (go_at_call 104; refine (hLen _).mono ?_; rintro e w' ⟨rfl, rfl⟩)
  | (go_at_call 103; refine (Tf _).mono ?_; rintro e w' ⟨rfl, rfl⟩))
 go_end0
 exact ⟨rfl, rfl⟩
set_option maxRecDepth 100000 in
theorem TX (w : World) : Calls prog 64 #[.slice none 0 0] w fun e w' => e = .returned (.slice none 0 0) /\ w' = w := by
 go_enter func64, ntmps64
 go_wp2
 go_ret
 exact ⟨rfl, rfl⟩
def FN (e : List (List By8)) : List (List By8) := e.mergeSort fun x y => decide (x <= y)
theorem Ik (e : List (List By8)) : (FN e).length = e.length := List.length_mergeSort ..
theorem SortS_ok {id : Nat} {e : List (List By8)} (hz : id = 0 -> e = []) (hlen : e.length <= 140737488355328) (ok : OK h (mo id Am e :: O)) {R : D -> Heap -> Prop} (hk : (id = 0 -> FN e = []) -> OK h (mo id Am (FN e) :: O) -> R (.tup []) (Hp h (mo id Am (FN e) :: O))) :
  CallsA prog 63 [EC 1 id e] (Hp h (mo id Am e :: O)) R := by
 cases id with
 | zero =>
  have e0 := hz rfl;subst e0;have hs : FN [] = [] := by simp [FN]
  rw [hs] at hk;refine .inl ⟨by kernel_rfl, fun K w vs H hl hv => ?_⟩;obtain rfl : vs = #[.slice none 0 0] := by
   rw [Ky hl];have h0 := hv 0;generalize vs.getD 0 undef = x at h0;have h0' : VR K x .snil := h0;cases h0'; rfl
  refine (SC w).mono ?_;rintro _ w' ⟨rfl, rfl⟩;exact ⟨_, _, K, _, rfl, Ext.refl K, H, .tup _ _ rfl (fun q => .any _), hk (fun _ => rfl) ok⟩
 | succ i =>
  refine .inl ⟨by kernel_rfl, fun K w vs H hl hv => ?_⟩;obtain ⟨cap, hn, rfl, _, _⟩ := YD (v := undef) hl (hv 0);have hx : Hp h (mo (i + 1) Am e :: O) (i + 1) = some (.cells (fl Am e)) := Hp_get 0 ok rfl (Nat.succ_ne_zero i);obtain ⟨hblk, hH⟩ := IE H hx;refine (Any.slices_Sort_string Tryz.lays190 (K.io (i + 1)) 0 cap e w hH hblk (by omega)).mono ?_;rintro _ w' ⟨rfl, n, os, rfl⟩;have H' := H.putS hx (e2 := FN e) (pad := []) (by simp [Ik]) n os;rw [List.append_nil] at H';obtain ⟨e1, e2⟩ := Hp_set (y := .cells (fl Am (FN e))) 0 ok rfl (Nat.succ_ne_zero i);rw [e1] at H';exact ⟨_, _, K, _, rfl, Ext.refl K, H', .tup _ _ rfl (fun q => .any _), hk (fun h0 => absurd h0 (Nat.succ_ne_zero i)) e2⟩
theorem Io (e : List (List By8)) : (Lib.compact e).length <= e.length := by
 unfold Lib.compact Lib.compactUpTo;rw [List.length_map];exact Nat.le_trans (List.length_filter_le _ _) (by simp)
theorem CompactS_ok {id : Nat} {e : List (List By8)} (hz : id = 0 -> e = []) (hlen : e.length <= 140737488355328) (ok : OK h (mo id Am e :: O)) {R : D -> Heap -> Prop}
  (hk : (id = 0 -> Lib.compact e = []) -> OK h (mo id Am (Lib.compact e) :: O) -> R (EC 1 id (Lib.compact e)) (Hp h (mo id Am (Lib.compact e) :: O))) :
  CallsA prog 64 [EC 1 id e] (Hp h (mo id Am e :: O)) R := by
 cases id with
 | zero =>
  have e0 := hz rfl;subst e0;have hs : Lib.compact ([] : List (List By8)) = [] := rfl;rw [hs] at hk;refine .inl ⟨by kernel_rfl, fun K w vs H hl hv => ?_⟩;obtain rfl : vs = #[.slice none 0 0] := by
   rw [Ky hl];have h0 := hv 0;generalize vs.getD 0 undef = x at h0;have h0' : VR K x .snil := h0;cases h0'; rfl
  refine (TX w).mono ?_;rintro _ w' ⟨rfl, rfl⟩;exact ⟨_, _, K, _, rfl, Ext.refl K, H, .snil, hk (fun _ => rfl) ok⟩
 | succ i =>
  refine .inl ⟨by kernel_rfl, fun K w vs H hl hv => ?_⟩;obtain ⟨cap, hn, rfl, hnx, hcs⟩ := YD (v := undef) hl (hv 0);have hx : Hp h (mo (i + 1) Am e :: O) (i + 1) = some (.cells (fl Am e)) := Hp_get 0 ok rfl (Nat.succ_ne_zero i);obtain ⟨hblk, hH⟩ := IE H hx;refine (AnyG.slices_Compact_string Tryz.laysN44 (K.io (i + 1)) 0 cap e w hH (by omega) hn).mono ?_;rintro _ w' ⟨rfl, n, rfl⟩;have hc := Io e;have H' := H.putS hx (e2 := Lib.compact e) (pad := List.replicate (e.length - (Lib.compact e).length) []) (by simp; omega) n #[];rw [grow_empty] at H';obtain ⟨e1, e2⟩ := Hp_set (y := .cells (fl Am (Lib.compact e))) 0 ok rfl (Nat.succ_ne_zero i);rw [e1] at H';exact ⟨_, _, K, _, rfl, Ext.refl K, H', .msl 1 (i + 1) 0 _ cap hnx (by omega) (by omega), hk (fun h0 => absurd h0 (Nat.succ_ne_zero i)) e2⟩
end
end Go.Proofs.YtjofelloaofooaaGreatDoor
