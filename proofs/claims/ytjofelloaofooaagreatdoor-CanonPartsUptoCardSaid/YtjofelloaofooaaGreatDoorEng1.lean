/- The abstract machine over which this proof is made: its values, its memory, and what it means that they stand for the model's. No condition. -/
import Derived.Laws.Cells
import Derived.Laws.Append
import Derived.Laws.World
import Derived.Laws.Sem
import Derived.Laws.IdiomCopy
import Derived.KernelRfl
import Derived.Test.YtjofelloaofooaaGreatDoorEng0
set_option linter.unusedSimpArgs false
set_option linter.unusedVariables false
namespace Go.Proofs.YtjofelloaofooaaGreatDoor
inductive D where
 | any
 | bool (b : Bool)
 | int (k : IntKind) (n : Int)
 | float (k : FloatKind) (n : Nat)
 | cplx (k : FloatKind) (re im : Nat)
 | str (s : List By8)
 | nilp
 | ptr (id off : Nat)
 | iptr (cs : List D)
 | snil
 | sl (k : Nat) (es : List (List D)) (r : Nat)
 | slx (k : Nat) (es sp : List (List D))
 | msl (k id off n : Nat)
 | mnil
 | mp (id : Nat)
 | fn (f : Fn) (fi ca : List D)
 | fnil
 | inil
 | ifc
 | ifd (t : TypeId) (d : D)
 | agg (cs : List D)
 | tup (cs : List D)
 deriving Inhabited
def D.one : D -> Bool
 | .any | .agg _ | .tup _ => false
 | _ => true
def D.cells : D -> List D
 | .agg cs => cs
 | d => [d]
structure Was where
 f : Nat -> Option Obj
 os : Os
 out : Array (Nat × ByteArray)
 tp : Nat -> Question -> Nat
structure Room where
 b : Nat
 lo : Nat
 k : Nat
 m : Nat
structure Kn where
 mu : Nat -> Nat -> Option Value
 io : Nat -> Nat
 sz : Nat -> Nat
 ro : Nat -> Room
 nx : Nat
 base : Nat
 old : Was
structure ME where
 born : Nat
 key : D
 val : D
inductive VR (K : Kn) : Value -> D -> Prop
 | any (v : Value) : VR K v .any
 | bool (b : Bool) : VR K (.bool b) (.bool b)
 | int (k : IntKind) (n : Int) : VR K (.int k n) (.int k n)
 | float (k : FloatKind) (n : Nat) : VR K (.float k n) (.float k n)
 | cplx (k : FloatKind) (x y : Nat) : VR K (.complex k x y) (.cplx k x y)
 | str (s : List By8) : VR K (.string ⟨s.toArray⟩) (.str s)
 | nilp : VR K (.pointer none) .nilp
 | ptr (id off : Nat) (h : id < K.nx) : VR K (.pointer (some ⟨K.io id, off, none⟩)) (.ptr id off)
 | iptr (b o : Nat) (cs : List D) (vs : Nat -> Value) (hm : ∀ i, i < cs.length -> K.mu b (o + i) = some (vs i)) (hv : ∀ i, VR K (vs i) (cs.getD i .any)) :
   VR K (.pointer (some ⟨b, o, none⟩)) (.iptr cs)
 | snil : VR K (.slice none 0 0) .snil
 | slz (k : Nat) (a : Option Addr) : VR K (.slice a 0 0) (.sl k [] 0)
 | sln (k r : Nat) (h : r < K.nx) : VR K (.slice none 0 0) (.sl k [] r)
 | sl (b o k : Nat) (es : List (List D)) (r cap : Nat) (vs : Nat -> Nat -> Value) (hk : ∀ i, i < es.length -> (es.getD i []).length = k)
   (hm : ∀ i j, i < es.length -> j < k -> K.mu b (o + i * k + j) = some (vs i j)) (hv : ∀ i j, VR K (vs i j) ((es.getD i []).getD j .any))
   (hc : es.length <= cap) (hr : r ≠ 0 -> r < K.nx /\ K.ro r = ⟨b, o + es.length * k, k, cap - es.length⟩ /\ K.base <= b) :
   VR K (.slice (some ⟨b, o, none⟩) es.length cap) (.sl k es r)
 | slx (b o k : Nat) (es sp : List (List D)) (cap : Nat) (vs : Nat -> Nat -> Value) (hk : ∀ i, i < (es ++ sp).length -> ((es ++ sp).getD i []).length = k)
   (hm : ∀ i j, i < (es ++ sp).length -> j < k -> K.mu b (o + i * k + j) = some (vs i j)) (hv : ∀ i j, VR K (vs i j) (((es ++ sp).getD i []).getD j .any)) (hc : (es ++ sp).length <= cap) :
   VR K (.slice (some ⟨b, o, none⟩) es.length cap) (.slx k es sp)
 | slxz (k : Nat) (a : Addr) : VR K (.slice (some a) 0 0) (.slx k [] [])
 | msl (k id off n cap : Nat) (h : id < K.nx) (hn : n <= cap) (hc : off + cap * k <= K.sz id) : VR K (.slice (some ⟨K.io id, off, none⟩) n cap) (.msl k id off n)
 | mnil : VR K (.map none) .mnil
 | mp (id : Nat) (h : id < K.nx) : VR K (.map (some (K.io id))) (.mp id)
 | fn (f : Fn) (fi ca : List D) (x y : Array Value) (hx : x.size = fi.length) (hy : y.size = ca.length) (h1 : ∀ i, VR K (x.getD i undef) (fi.getD i .any))
   (h2 : ∀ i, VR K (y.getD i undef) (ca.getD i .any)) : VR K (.func f x y) (.fn f fi ca)
 | fnil : VR K .nilFunc .fnil
 | inil : VR K .nilIface .inil
 | ifc (t : TypeId) (v : Value) : VR K (.iface t v) .ifc
 | ifd (t : TypeId) (v : Value) (d : D) (h : VR K v d) : VR K (.iface t v) (.ifd t d)
 | agg (x : Array Value) (cs : List D) (hx : x.size = cs.length) (h1 : ∀ i, i < x.size -> (x.getD i undef).oneCell' = true) (hv : ∀ i, VR K (x.getD i undef) (cs.getD i .any)) :
   VR K (.agg x) (.agg cs)
 | tup (x : Array Value) (cs : List D) (hx : x.size = cs.length) (hv : ∀ i, VR K (x.getD i undef) (cs.getD i .any)) : VR K (.tuple x) (.tup cs)
structure Ext (K K' : Kn) : Prop where
 mu : ∀ b o v, K.mu b o = some v -> K'.mu b o = some v
 io : ∀ i, i < K.nx -> K'.io i = K.io i
 sz : ∀ i, i < K.nx -> K'.sz i = K.sz i
 ro : ∀ i, i < K.nx -> K'.ro i = K.ro i
 nx : K.nx <= K'.nx
 base : K'.base = K.base
 old : K'.old = K.old
theorem Ext.refl (K : Kn) : Ext K K := ⟨fun _ _ _ h => h, fun _ _ => rfl, fun _ _ => rfl, fun _ _ => rfl, Nat.le_refl _, rfl, rfl⟩
theorem Ext.trans {A B C : Kn} (h : Ext A B) (g : Ext B C) : Ext A C :=
 ⟨fun b o v x => g.mu b o v (h.mu b o v x), fun i hi => (g.io i (Nat.lt_of_lt_of_le hi h.nx)).trans (h.io i hi),
  fun i hi => (g.sz i (Nat.lt_of_lt_of_le hi h.nx)).trans (h.sz i hi), fun i hi => (g.ro i (Nat.lt_of_lt_of_le hi h.nx)).trans (h.ro i hi),
  Nat.le_trans h.nx g.nx, g.base.trans h.base, g.old.trans h.old⟩
theorem VR.mono {K K' : Kn} (E : Ext K K') {v : Value} {d : D} (h : VR K v d) : VR K' v d := by
 induction h with
 | any v => exact .any v
 | bool b => exact .bool b
 | int k n => exact .int k n
 | float k n => exact .float k n
 | cplx k x y => exact .cplx k x y
 | str s => exact .str s
 | nilp => exact .nilp
 | ptr id off h => rw [<- E.io id h]; exact .ptr id off (Nat.lt_of_lt_of_le h E.nx)
 | iptr b o cs vs hm hv ih => exact .iptr b o cs vs (fun i hi => E.mu _ _ _ (hm i hi)) ih
 | snil => exact .snil
 | slz k a => exact .slz k a
 | sln k r h => exact .sln k r (Nat.lt_of_lt_of_le h E.nx)
 | sl b o k es r cap vs hk hm hv hc hr ih =>
  exact .sl b o k es r cap vs hk (fun i j hi hj => E.mu _ _ _ (hm i j hi hj)) ih hc (fun h0 => ⟨Nat.lt_of_lt_of_le (hr h0).1 E.nx, (E.ro r (hr h0).1).trans (hr h0).2.1, by rw [E.base]; exact (hr h0).2.2⟩)
 | slx b o k es sp cap vs hk hm hv hc ih => exact .slx b o k es sp cap vs hk (fun i j hi hj => E.mu _ _ _ (hm i j hi hj)) ih hc
 | slxz k a => exact .slxz k a
 | msl k id off n cap h hn hc => rw [<- E.io id h]; exact .msl k id off n cap (Nat.lt_of_lt_of_le h E.nx) hn (by rw [E.sz id h]; exact hc)
 | mnil => exact .mnil
 | mp id h => rw [<- E.io id h]; exact .mp id (Nat.lt_of_lt_of_le h E.nx)
 | fn f fi ca x y hx hy h1 h2 i1 i2 => exact .fn f fi ca x y hx hy i1 i2
 | fnil => exact .fnil
 | inil => exact .inil
 | ifc t v => exact .ifc t v
 | ifd t v d h ih => exact .ifd t v d ih
 | agg x cs hx h1 hv ih => exact .agg x cs hx h1 ih
 | tup x cs hx hv ih => exact .tup x cs hx ih
theorem VR.one {K : Kn} {v : Value} {d : D} (h : VR K v d) (hd : d.one = true) : v.oneCell' = true := by
 cases h <;> first | rfl | (simp [D.one] at hd)
structure Keep (w w' : World) (S : Nat -> Nat -> Prop) : Prop where
 cell : ∀ b o, b < w.heap.size -> ¬ S b o -> w'.cell? ⟨b, o, none⟩ = w.cell? ⟨b, o, none⟩ /\ w'.frozen? ⟨b, o, none⟩ = w.frozen? ⟨b, o, none⟩
 obj : ∀ b, b < w.heap.size -> (∀ o, ¬ S b o) -> w'.heap[b]? = w.heap[b]?
 size : w.heap.size <= w'.heap.size
 ev : w'.os = w.os /\ w'.output = w.output /\ w'.tape = w.tape
structure Box where
 own : Kn -> Nat -> Nat -> Nat -> Prop
 cell : Nat -> Option D
 ok : Kn -> World -> Nat -> Prop
 lt : ∀ K w i, ok K w i -> ∀ b o, own K i b o -> b < w.heap.size
 ext : ∀ K K' w i, Ext K K' -> i < K.nx -> ok K w i -> ∀ b o, own K' i b o ↔ own K i b o
 keep : ∀ K K' w w' i S, Ext K K' -> i < K.nx -> Keep w w' S -> (∀ b o, S b o -> ¬ own K i b o) -> ok K w i -> ok K' w' i
 rd : ∀ K w i, ok K w i -> ∀ j d, cell j = some d -> ∃ v, w.cell? ⟨K.io i, j, none⟩ = some v /\ v.oneCell' = true /\ VR K v d
inductive AObj where
 | cells (cs : List D)
 | bytes (cs : List D)
 | room
 | lit (cs : List D)
 | map (es : List ME) (clock : Nat)
 | iter (s : List By8) (pos : Nat)
 | miter (m since : Nat) (seen : List Nat) (stepped : Nat)
 | box (p : Box)
abbrev Heap := Nat -> Option AObj
def Heap.upd (h : Heap) (i : Nat) (x : Option AObj) : Heap := fun j => if j = i then x else h j
theorem Heap.upd_same (h : Heap) (i : Nat) (x : Option AObj) : h.upd i x i = x := by simp [Heap.upd]
theorem Heap.upd_ne (h : Heap) {i j : Nat} (x : Option AObj) (hn : j ≠ i) : h.upd i x j = h j := by simp [Heap.upd, hn]
def own (K : Kn) (i : Nat) : AObj -> Nat -> Nat -> Prop
 | .room, b, o => b = (K.ro i).b /\ (K.ro i).lo <= o /\ o < (K.ro i).lo + (K.ro i).m * (K.ro i).k
 | .box p, b, o => p.own K i b o
 | _, b, _ => b = K.io i
def EntriesOk (K : Kn) : List MapEntry -> List ME -> Prop
 | [], [] => True
 | x :: xs, e :: es => x.born = e.born /\ VR K x.key e.key /\ VR K x.val e.val /\ EntriesOk K xs es
 | _, _ => False
def ObjOk (K : Kn) (w : World) (i : Nat) : AObj -> Prop
 | .cells cs => cs.length <= K.sz i /\ (∀ j, j < K.sz i -> ∃ v, w.cell? ⟨K.io i, j, none⟩ = some v /\ v.oneCell' = true /\ VR K v (cs.getD j .any)) /\ (∃ s, w.shape? (K.io i) = some s) /\ ∀ o, w.frozen? ⟨K.io i, o, none⟩ = false
 | .bytes cs => (∀ j, j < cs.length -> ∃ v, w.cell? ⟨K.io i, j, none⟩ = some v /\ v.oneCell' = true /\ VR K v (cs.getD j .any)) /\ (∃ s, w.shape? (K.io i) = some s) /\ ∀ o, o < cs.length -> w.frozen? ⟨K.io i, o, none⟩ = false
 | .room => ∀ o, (K.ro i).lo <= o -> o < (K.ro i).lo + (K.ro i).m * (K.ro i).k -> ∃ v, w.cell? ⟨(K.ro i).b, o, none⟩ = some v /\ w.frozen? ⟨(K.ro i).b, o, none⟩ = false
 | .lit cs => ∃ c t, w.heap[K.io i]? = some (.cells c t (0, 0)) /\ cs.length <= c.size /\ ∀ j, j < cs.length -> ∃ v, c[j]? = some v /\ v.oneCell' = true /\ VR K v (cs.getD j .any)
 | .map es clock => ∃ xs, w.heap[K.io i]? = some (.map xs clock) /\ EntriesOk K xs.toList es
 | .iter s pos => w.heap[K.io i]? = some (.stringIter ⟨s.toArray⟩ pos)
 | .miter m since seen stepped => m < K.nx /\ w.heap[K.io i]? = some (.mapIter (some (K.io m)) since seen.toArray stepped)
 | .box p => p.ok K w i
structure HR (K : Kn) (h : Heap) (w : World) : Prop where
 lt : ∀ i x, h i = some x -> i < K.nx
 nz : 0 < K.nx
 mu : ∀ b o v, K.mu b o = some v -> w.cell? ⟨b, o, none⟩ = some v /\ v.oneCell' = true
 bs : K.base <= w.heap.size
 old : ∀ b, b < K.base -> w.heap[b]? = K.old.f b
 ok : ∀ i x, h i = some x -> ObjOk K w i x
 ge : ∀ i x, h i = some x -> ∀ b o, own K i x b o -> K.base <= b
 nomu : ∀ i x, h i = some x -> ∀ b o, own K i x b o -> K.mu b o = none
 sep : ∀ i j x y, i ≠ j -> h i = some x -> h j = some y -> ∀ b o, own K i x b o -> ¬ own K j y b o
 z : h 0 = none
 ev : w.os = K.old.os /\ w.output = K.old.out /\ w.tape = K.old.tp
 tb : ∀ u : World, (∀ b, b < K.base -> u.heap[b]? = K.old.f b) -> Tabs u
theorem HR.tab {K : Kn} {h : Heap} {w : World} (H : HR K h w) : Tabs w := H.tb w H.old
theorem cell?_lt {w : World} {b o : Nat} {v : Value} (h : w.cell? ⟨b, o, none⟩ = some v) : b < w.heap.size := by
 have := World.block_lt_of_cell? (w := w) (a := ⟨b, o, none⟩) (u := v) h;simpa using this
theorem EntriesOk.mono {K K' : Kn} (E : Ext K K') : ∀ {xs : List MapEntry} {es : List ME}, EntriesOk K xs es -> EntriesOk K' xs es
 | [], [], _ => trivial
 | _ :: _, _ :: _, ⟨h1, h2, h3, h4⟩ => ⟨h1, h2.mono E, h3.mono E, h4.mono E⟩
 | [], _ :: _, h => h.elim
 | _ :: _, [], h => h.elim
theorem EntriesOk.length {K : Kn} : ∀ {xs : List MapEntry} {es : List ME}, EntriesOk K xs es -> xs.length = es.length
 | [], [], _ => rfl
 | _ :: _, _ :: _, ⟨_, _, _, h4⟩ => by simp [h4.length]
 | [], _ :: _, h => h.elim
 | _ :: _, [], h => h.elim
theorem ObjOk.keep {K K' : Kn} {w w' : World} {i : Nat} {x : AObj} {S : Nat -> Nat -> Prop} (E : Ext K K') (hi : i < K.nx) (hk : Keep w w' S) (hS : ∀ b o, S b o -> ¬ own K i x b o) (h : ObjOk K w i x) : ObjOk K' w' i x := by
 cases x with
 | cells cs =>
  obtain ⟨hl, hcs, ⟨s, hsh⟩, hfz⟩ := h;have hlt : K.io i < w.heap.size := by
   rcases Nat.lt_or_ge (K.io i) w.heap.size with h | h
   ·exact h
   ·simp [World.shape?, Array.getElem?_eq_none h] at hsh
  rw [ObjOk, E.sz i hi, E.io i hi];refine ⟨hl, fun j hj => ?_, ⟨s, ?_⟩, fun o => ?_⟩
  ·obtain ⟨v, hc, h1, hv⟩ := hcs j hj;have hs : ¬ S (K.io i) j := fun hs => hS _ _ hs rfl;obtain ⟨e1, e2⟩ := hk.cell _ j (cell?_lt hc) hs;exact ⟨v, by rw [e1, hc], h1, hv.mono E⟩
  ·unfold World.shape? at hsh ⊢;rw [hk.obj _ hlt (fun o hs => hS _ _ hs rfl)]; exact hsh
  ·rw [(hk.cell _ o hlt (fun hs => hS _ _ hs rfl)).2]; exact hfz o
 | bytes cs =>
  obtain ⟨hcs, ⟨s, hsh⟩, hfz⟩ := h;have hlt : K.io i < w.heap.size := by
   rcases Nat.lt_or_ge (K.io i) w.heap.size with h | h
   ·exact h
   ·simp [World.shape?, Array.getElem?_eq_none h] at hsh
  rw [ObjOk, E.io i hi];refine ⟨fun j hj => ?_, ⟨s, ?_⟩, fun o ho => ?_⟩
  ·obtain ⟨v, hc, h1, hv⟩ := hcs j hj;have hs : ¬ S (K.io i) j := fun hs => hS _ _ hs rfl;obtain ⟨e1, e2⟩ := hk.cell _ j (cell?_lt hc) hs;exact ⟨v, by rw [e1, hc], h1, hv.mono E⟩
  ·unfold World.shape? at hsh ⊢;rw [hk.obj _ hlt (fun o hs => hS _ _ hs rfl)]; exact hsh
  ·rw [(hk.cell _ o hlt (fun hs => hS _ _ hs rfl)).2]; exact hfz o ho
 | room =>
  intro o h1 h2;rw [E.ro i hi] at h1 h2 ⊢;obtain ⟨v, hc, hf⟩ := h o h1 h2;have hs : ¬ S (K.ro i).b o := fun hs => hS _ _ hs ⟨rfl, h1, h2⟩;obtain ⟨e1, e2⟩ := hk.cell _ o (cell?_lt hc) hs;exact ⟨v, by rw [e1, hc], by rw [e2, hf]⟩
 | lit cs =>
  obtain ⟨c, t, hx, hn, hc⟩ := h;have hlt : K.io i < w.heap.size := by
   rcases Nat.lt_or_ge (K.io i) w.heap.size with h | h
   ·exact h
   ·simp [Array.getElem?_eq_none h] at hx
  refine ⟨c, t, ?_, hn, fun j hj => ?_⟩
  ·rw [E.io i hi, hk.obj _ hlt (fun o hs => hS _ _ hs rfl)];exact hx
  ·obtain ⟨v, h1, h2, h3⟩ := hc j hj;exact ⟨v, h1, h2, h3.mono E⟩
 | map es clock =>
  obtain ⟨xs, hx, he⟩ := h;refine ⟨xs, ?_, he.mono E⟩;have hlt : K.io i < w.heap.size := by
   rcases Nat.lt_or_ge (K.io i) w.heap.size with h | h
   ·exact h
   ·simp [Array.getElem?_eq_none h] at hx
  rw [E.io i hi, hk.obj _ hlt (fun o hs => hS _ _ hs rfl)];exact hx
 | iter s pos =>
  have hx : w.heap[K.io i]? = some (.stringIter ⟨s.toArray⟩ pos) := h;have hlt : K.io i < w.heap.size := by
   rcases Nat.lt_or_ge (K.io i) w.heap.size with h | h
   ·exact h
   ·simp [Array.getElem?_eq_none h] at hx
  show w'.heap[K'.io i]? = _;rw [E.io i hi, hk.obj _ hlt (fun o hs => hS _ _ hs rfl)];exact hx
 | miter m since seen stepped =>
  obtain ⟨hm, hx⟩ := h;have hlt : K.io i < w.heap.size := by
   rcases Nat.lt_or_ge (K.io i) w.heap.size with h | h
   ·exact h
   ·simp [Array.getElem?_eq_none h] at hx
  refine ⟨Nat.lt_of_lt_of_le hm E.nx, ?_⟩;rw [E.io i hi, E.io m hm, hk.obj _ hlt (fun o hs => hS _ _ hs rfl)];exact hx
 | box p => exact p.keep K K' w w' i S E hi hk hS h
theorem IB {K K' : Kn} {w : World} (E : Ext K K') {i : Nat} (hi : i < K.nx) (x : AObj) (hx : ObjOk K w i x) (b o : Nat) : own K' i x b o ↔ own K i x b o := by
 cases x with
 | box p => exact p.ext K K' w i E hi hx b o
 | _ => simp [own, E.io i hi, E.ro i hi]
theorem HR.change {K K' : Kn} {h h' : Heap} {w w' : World} {S : Nat -> Nat -> Prop} (C : Nat -> Prop) (H : HR K h w) (E : Ext K K') (hk : Keep w w' S)
  (hS : ∀ b o, S b o -> ∃ i x, C i /\ h i = some x /\ own K i x b o)
  (hrest : ∀ j, ¬ C j -> h' j = h j \/ h' j = none)
  (hmu : ∀ b o v, K'.mu b o = some v -> K.mu b o = some v \/ (w'.cell? ⟨b, o, none⟩ = some v /\ v.oneCell' = true /\ ∀ j y, ¬ C j -> h j = some y -> ¬ own K j y b o))
  (hz : h' 0 = none)
  (hC : ∀ i x, C i -> h' i = some x -> i < K'.nx /\ ObjOk K' w' i x /\ ∀ b o, own K' i x b o -> K.base <= b /\ K'.mu b o = none /\ (∀ j y, ¬ C j -> h j = some y -> ¬ own K j y b o) /\
   (∀ j y, C j -> j ≠ i -> h' j = some y -> ¬ own K' j y b o)) : HR K' h' w' := by
 have hold : ∀ j x, ¬ C j -> h' j = some x -> h j = some x := fun j x hj hx => by
  rcases hrest j hj with e | e
  ·rw [<- e]; exact hx
  ·rw [e] at hx; simp at hx
 have hkeepS : ∀ j x, ¬ C j -> h j = some x -> ∀ b o, S b o -> ¬ own K j x b o := by
  intro j x hj hx b o hs ho;obtain ⟨i, y, hi, hy, hoy⟩ := hS b o hs;exact H.sep i j y x (fun e => hj (e ▸ hi)) hy hx b o hoy ho
 refine ⟨?_, Nat.lt_of_lt_of_le H.nz E.nx, ?_, ?_, ?_, ?_, ?_, ?_, ?_, hz, by rw [E.old]; exact ⟨hk.ev.1.trans H.ev.1, hk.ev.2.1.trans H.ev.2.1, hk.ev.2.2.trans H.ev.2.2⟩, by rw [E.base, E.old]; exact H.tb⟩
 ·intro i x hx;by_cases hi : C i
  ·exact (hC i x hi hx).1
  ·exact Nat.lt_of_lt_of_le (H.lt i x (hold i x hi hx)) E.nx
 ·intro b o v hv;rcases hmu b o v hv with h1 | h1
  ·obtain ⟨hc, h1c⟩ := H.mu b o v h1;have hs : ¬ S b o := fun hs => by
    obtain ⟨i, y, hi, hy, hoy⟩ := hS b o hs;have := H.nomu i y hy b o hoy;rw [h1] at this; simp at this
   exact ⟨by rw [(hk.cell b o (cell?_lt hc) hs).1, hc], h1c⟩
  ·exact ⟨h1.1, h1.2.1⟩
 ·rw [E.base]; exact Nat.le_trans H.bs hk.size
 ·intro b hb;rw [E.base] at hb;rw [E.old, <- H.old b hb]
  exact hk.obj b (Nat.lt_of_lt_of_le hb H.bs) (fun o hs => by
   obtain ⟨i, y, hi, hy, hoy⟩ := hS b o hs;have := H.ge i y hy b o hoy
   omega)
 ·intro i x hx;by_cases hi : C i
  ·exact (hC i x hi hx).2.1
  ·have hx' := hold i x hi hx;exact (H.ok i x hx').keep E (H.lt i x hx') hk (hkeepS i x hi hx')
 ·intro i x hx b o ho;rw [E.base];by_cases hi : C i
  ·exact ((hC i x hi hx).2.2 b o ho).1
  ·have hx' := hold i x hi hx;exact H.ge i x hx' b o ((IB E (H.lt i x hx') x (H.ok i x hx') b o).1 ho)
 ·intro i x hx b o ho;by_cases hi : C i
  ·exact ((hC i x hi hx).2.2 b o ho).2.1
  ·have hx' := hold i x hi hx;have ho' := (IB E (H.lt i x hx') x (H.ok i x hx') b o).1 ho
   cases hv : K'.mu b o with
   | none => rfl
   | some v =>
    rcases hmu b o v hv with h1 | h1
    ·have := H.nomu i x hx' b o ho';rw [h1] at this; simp at this
    ·exact absurd ho' (h1.2.2 i x hi hx')
 ·intro i j x y hij hx hy b o hox hoy;by_cases hi : C i
  ·by_cases hj : C j
   ·exact ((hC i x hi hx).2.2 b o hox).2.2.2 j y hj (Ne.symm hij) hy hoy
   ·have hy' := hold j y hj hy;exact ((hC i x hi hx).2.2 b o hox).2.2.1 j y hj hy' ((IB E (H.lt j y hy') y (H.ok j y hy') b o).1 hoy)
  ·have hx' := hold i x hi hx;have hox' := (IB E (H.lt i x hx') x (H.ok i x hx') b o).1 hox;by_cases hj : C j
   ·exact ((hC j y hj hy).2.2 b o hoy).2.2.1 i x hi hx' hox'
   ·have hy' := hold j y hj hy;exact H.sep i j x y hij hx' hy' b o hox' ((IB E (H.lt j y hy') y (H.ok j y hy') b o).1 hoy)
theorem Keep.refl (w : World) (S : Nat -> Nat -> Prop) : Keep w w S := ⟨fun _ _ _ _ => ⟨rfl, rfl⟩, fun _ _ _ => rfl, Nat.le_refl _, rfl, rfl, rfl⟩
theorem Keep.trans {u v w : World} {S : Nat -> Nat -> Prop} (h : Keep u v S) (g : Keep v w S) : Keep u w S :=
 ⟨fun b o hb hs => by
  obtain ⟨a1, a2⟩ := h.cell b o hb hs;obtain ⟨b1, b2⟩ := g.cell b o (Nat.lt_of_lt_of_le hb h.size) hs;exact ⟨b1.trans a1, b2.trans a2⟩,
  fun b hb hs => (g.obj b (Nat.lt_of_lt_of_le hb h.size) hs).trans (h.obj b hb hs), Nat.le_trans h.size g.size, g.ev.1.trans h.ev.1, g.ev.2.1.trans h.ev.2.1, g.ev.2.2.trans h.ev.2.2⟩
theorem Keep.mono {u v : World} {S T : Nat -> Nat -> Prop} (hST : ∀ b o, S b o -> T b o) (h : Keep u v S) : Keep u v T :=
 ⟨fun b o hb hs => h.cell b o hb (fun x => hs (hST b o x)), fun b hb hs => h.obj b hb (fun o x => hs o (hST b o x)), h.size, h.ev⟩
theorem Keep.drew (w : World) (S : Nat -> Nat -> Prop) : Keep w w.drew S := ⟨fun _ _ _ _ => ⟨rfl, rfl⟩, fun _ _ _ => rfl, Nat.le_refl _, rfl, rfl, rfl⟩
theorem Keep.alloc (w : World) (o : Obj) (S : Nat -> Nat -> Prop) : Keep w (w.alloc o) S := by
 refine ⟨fun b off hb _ => ?_, fun b hb _ => ?_, by simp, rfl, rfl, rfl⟩
 ·exact ⟨World.cell?_alloc_lt w o ⟨b, off, none⟩ hb, World.frozen?_alloc_old w o ⟨b, off, none⟩ (Nat.ne_of_lt hb)⟩
 ·show (w.heap.push o)[b]? = _;rw [Array.getElem?_push_lt hb, Array.getElem?_eq_getElem hb]
theorem Keep.setCell (w : World) (b o : Nat) (v : Value) : Keep w (w.setCell ⟨b, o, none⟩ v) (fun b' o' => b' = b /\ o' = o) := by
 refine ⟨fun b' o' _ hs => ?_, fun b' hb' hs => ?_, by simp, rfl, rfl, rfl⟩
 ·refine ⟨World.cell?_setCell_other _ _ _ _ ?_, World.frozen?_setCell _ _ _ _⟩;intro e;injection e with e1 e2
  exact hs ⟨e1.symm, e2.symm⟩
 ·have hne : b' ≠ b := fun e => hs o ⟨e, rfl⟩;simp [World.setCell, Array.getElem?_modify, Ne.symm hne]
end Go.Proofs.YtjofelloaofooaaGreatDoor
