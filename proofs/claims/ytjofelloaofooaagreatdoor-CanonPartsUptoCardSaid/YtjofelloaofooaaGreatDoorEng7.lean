/- Maps, and ranging over maps and strings: the model does what the abstract machine does. No condition. -/
import Derived.Laws.NewFold
import Derived.Test.YtjofelloaofooaaGreatDoorEng6
set_option linter.unusedSimpArgs false
set_option linter.unusedVariables false
namespace Go.Proofs.YtjofelloaofooaaGreatDoor
def Vq (P : Program) (t : TypeId) : Bool := match arD P t with
 | some (n, e) => n == 2 && boD P e && szD P e == some 1 && agD P e == some false
 | none => false
def Ur (P : Program) (t : TypeId) : D -> Bool
 | .int k _ => kiD P t == some k
 | .str _ => stD P t
 | .bool _ => boD P t
 | .agg [.bool _, .bool _] => Vq P t
 | _ => false
def QR : D -> D -> Bool
 | .int _ a, .int _ b => a == b
 | .str a, .str b => a == b
 | .bool a, .bool b => a == b
 | .agg [.bool a, .bool b], .agg [.bool c, .bool d] => a == c && b == d
 | _, _ => false
def YA (P : Program) (t : TypeId) (es : List ME) : Bool := es.all fun e => Ur P t e.key
def UA (h : Heap) : D -> Option (List ME)
 | .mnil => some []
 | .mp id => match h id with
  | some (.map es _) => some es
  | _ => none
 | _ => none
def Z0 (key : D) (es : List ME) : Option ME := es.find? fun e => QR key e.key
def Q8 (P : Program) (h : Heap) (t : TypeId) (x key : D) (ok : Bool) : Option D := none
def YL (key val : D) (clock : Nat) : List ME -> List ME × Nat
 | [] => ([⟨clock, key, val⟩], clock + 1)
 | e :: es => if QR key e.key then (⟨e.born, key, val⟩ :: es, clock) else (e :: (YL key val clock es).1, (YL key val clock es).2)
def L7 (P : Program) (h : Heap) (t : TypeId) (m key val : D) (R : Heap -> Prop) : Prop := False
def Zg (key : D) : List ME -> List ME
 | [] => []
 | e :: es => if QR key e.key then es else e :: Zg key es
def Px (P : Program) (h : Heap) (t : TypeId) (m key : D) (R : Heap -> Prop) : Prop := False
section
variable {P : Program} {K : Kn} {h : Heap} {w : World}
def Y9 (key : D) : List ME -> Nat -> Option Nat
 | [], _ => none
 | e :: es, i => if QR key e.key then some i else Y9 key es (i + 1)
theorem LS (H : HR K h w) {t : TypeId} {x key e : D} {ok : Bool} {vx vk : Value} (hx : VR K vx x) (hk : VR K vk key) (hl : Q8 P h t x key ok = some e) : Says P K w (Instr.lookup t vx vk ok) e := by unfold Q8 at hl; cases hl
theorem EntriesOk.push : ∀ {xs : List MapEntry} {es : List ME} {x : MapEntry} {e : ME}, EntriesOk K xs es -> x.born = e.born -> VR K x.key e.key -> VR K x.val e.val -> EntriesOk K (xs ++ [x]) (es ++ [e])
 | [], [], _, _, _, a, b, c => ⟨a, b, c, trivial⟩
 | _ :: _, _ :: _, _, _, ⟨p, q, r, s⟩, a, b, c => ⟨p, q, r, s.push a b c⟩
 | [], _ :: _, _, _, h, _, _, _ => h.elim
 | _ :: _, [], _, _, h, _, _, _ => h.elim
theorem EntriesOk.set : ∀ {xs : List MapEntry} {es : List ME} {j : Nat} {x : MapEntry} {e : ME}, EntriesOk K xs es -> x.born = e.born -> VR K x.key e.key -> VR K x.val e.val -> EntriesOk K (xs.set j x) (es.set j e)
 | [], [], _, _, _, _, _, _, _ => trivial
 | _ :: _, _ :: _, 0, _, _, ⟨_, _, _, s⟩, a, b, c => ⟨a, b, c, s⟩
 | _ :: _, _ :: _, j + 1, _, _, ⟨p, q, r, s⟩, a, b, c => ⟨p, q, r, s.set a b c⟩
 | [], _ :: _, _, _, _, h, _, _, _ => h.elim
 | _ :: _, [], _, _, _, h, _, _, _ => h.elim
theorem NV (H : HR K h w) {id : Nat} {es : List ME} {clock : Nat} (hx : h id = some (.map es clock)) : ∃ xs, w.heap[K.io id]? = some (.map xs clock) /\ EntriesOk K xs.toList es /\ (getObj (K.io id)).run P w = .ok (.map xs clock) w := by
 obtain ⟨xs, hxs, he⟩ := H.ok id _ hx;exact ⟨xs, hxs, he, by simp [getObj, Sem.run, hxs]⟩
theorem NN {g : Nat} {o ob : Obj} (hg : w.heap[g]? = some o) (ho : ∀ c t f, o ≠ .cells c t f) : (setObj g ob).run P w = .ok () { w with heap := w.heap.setIfInBounds g ob } := by
 simp only [setObj, Sem.run, hg]
theorem Hh (H : HR K h w) {t : TypeId} {m key val : D} {vm vk vv : Value} {R : Heap -> Prop} (hm : VR K vm m) (hk : VR K vk key) (hv : VR K vv val) (hR : L7 P h t m key val R) :
  ∃ w' h', (Instr.mapUpdate t vm vk vv).run P w = .ok () w' /\ HR K h' w' /\ R h' := (show False from hR).elim
theorem JM (H : HR K h w) {t ty kt0 : TypeId} {m key : D} {vm vk : Value} {R : Heap -> Prop} (hm : VR K vm m) (hk : VR K vk key) (hR : Px P h t m key R) :
  ∃ w' h', (Builtin.delete_ #[t, kt0] ty #[vm, vk]).run P w = .ok (.tuple #[]) w' /\ HR K h' w' /\ R h' := (show False from hR).elim
def PP (P : Program) (h : Heap) (t : TypeId) (m key : D) (R : D -> Heap -> Prop) : Prop := False
theorem JR (H : HR K h w) {t : TypeId} {m key : D} {vm vk : Value} {R : D -> Heap -> Prop} (hm : VR K vm m) (hk : VR K vk key) (hR : PP P h t m key R) :
  Does P K h w (Instr.mapEntry t vm vk) R := (show False from hR).elim
def Ss (st : Int) (val : D) : List ME -> Option (List ME)
 | [] => none
 | e :: es => if (e.born : Int) = st then some (⟨e.born, e.key, val⟩ :: es) else (Ss st val es).map (e :: ·)
def Pw (h : Heap) (m st val : D) (R : Heap -> Prop) : Prop := False
theorem JN (H : HR K h w) {t : TypeId} {m st val : D} {vm vs vv : Value} {R : Heap -> Prop} (hm : VR K vm m) (hs : VR K vs st) (hv : VR K vv val) (hR : Pw h m st val R) :
  ∃ w' h', (Instr.entryStore t vm vs vv).run P w = .ok () w' /\ HR K h' w' /\ R h' := (show False from hR).elim
def Pt (h : Heap) (R : D -> Heap -> Prop) : Prop := ∀ i, h i = none -> i ≠ 0 -> R (.mp i) (h.upd i (some (.map [] 0)))
theorem Ku (H : HR K h w) {t : TypeId} {R : D -> Heap -> Prop} (hR : Pt h R) : Does P K h w (Instr.makeMap t none) R := by
 have hob := H.newObj (.map #[] 0) (.map [] 0) (by simp) (by simp) (fun K' E hio => ⟨#[], by rw [hio]; exact E9 w _, trivial⟩);refine ⟨.map (some w.heap.size), w.alloc (.map #[] 0), _, _, _, by simp [Instr.makeMap], Kn.withObj_ext K _ _, hob, ?_, hR K.nx H.fresh (by have := H.nz; omega)⟩;have := VR.mp (K := K.withObj w.heap.size 0) K.nx (by simp [Kn.withObj]);have hio : (K.withObj w.heap.size 0).io K.nx = w.heap.size := by simp [Kn.withObj]
 rw [hio] at this;exact this
def KT (P : Program) (h : Heap) (t : TypeId) (x : D) (R : D -> Heap -> Prop) : Prop :=
 match x with
 | .str s => stD P t = true /\ ∀ i, h i = none -> i ≠ 0 -> R (.ptr i 0) (h.upd i (some (.iter s 0)))
 | .mp m => (maD P t).isSome = true /\ match h m with
  | some (.map _ clock) => ∀ i, h i = none -> i ≠ 0 -> R (.ptr i 0) (h.upd i (some (.miter m clock [] clock)))
  | _ => False
 | _ => False
theorem Ld (H : HR K h w) {t : TypeId} {x : D} {v : Value} {R : D -> Heap -> Prop} (hv : VR K v x) (hR : KT P h t x R) : Does P K h w (Instr.range t v) R := by
 unfold KT at hR;have hio : (K.withObj w.heap.size 0).io K.nx = w.heap.size := by simp [Kn.withObj]
 have hptr := VR.ptr (K := K.withObj w.heap.size 0) K.nx 0 (by simp [Kn.withObj]);rw [hio] at hptr;split at hR
 ·rename_i s;obtain ⟨hs, hR⟩ := hR;cases hv;have hob := H.newObj (.stringIter ⟨s.toArray⟩ 0) (.iter s 0) (by simp) (by simp) (fun K' E hio => by show _ = _; rw [hio]; exact E9 w _);exact ⟨.pointer (some ⟨w.heap.size, 0, none⟩), w.alloc (.stringIter ⟨s.toArray⟩ 0), _, _, _, by simp [Instr.range, run_underlying (Dm hs)], Kn.withObj_ext K _ _, hob, hptr, hR K.nx H.fresh (by have := H.nz; omega)⟩
 ·rename_i m;obtain ⟨hs, hR⟩ := hR;split at hR
  ·rename_i es clock hm;cases hv;obtain ⟨⟨kt, et⟩, hma⟩ := Option.isSome_iff_exists.1 hs;obtain ⟨xs, hxs, he, hg⟩ := NV (P := P) H hm;have hmlt := H.lt m _ hm;have hob := H.newObj (.mapIter (some (K.io m)) clock #[] clock) (.miter m clock [] clock) (by simp) (by simp) (fun K' E hio => ⟨Nat.lt_of_lt_of_le hmlt E.nx, by rw [hio, E.io m hmlt]; exact E9 w _⟩);exact ⟨.pointer (some ⟨w.heap.size, 0, none⟩), w.alloc (.mapIter (some (K.io m)) clock #[] clock), _, _, _, by simp [Instr.range, run_underlying (LI hma), hg], Kn.withObj_ext K _ _, hob, hptr, hR K.nx H.fresh (by have := H.nz; omega)⟩
  ·exact hR.elim
 ·exact hR.elim
def Pa (h : Heap) (it : D) (isString : Bool) (R : D -> Heap -> Prop) : Prop :=
 match it with
 | .ptr i 0 => match h i, isString with
  | some (.iter s pos), true =>
   if pos < s.length then R (.tup [.bool true, .int .i64 pos, .int .i32 (Utf8.decode ⟨s.toArray⟩ pos).1]) (h.upd i (some (.iter s (pos + (Utf8.decode ⟨s.toArray⟩ pos).2))))
   else R (.tup [.bool false]) h
  | _, _ => False
 | _ => False
def PW (h : Heap) (it : D) : Option D := none
theorem Le (H : HR K h w) {it d : D} {v : Value} (hv : VR K v it) (hd : PW h it = some d) : Says P K w (Instr.entry v) d := by unfold PW at hd; cases hd
theorem EntriesOk.born : ∀ {xs : List MapEntry} {es : List ME}, EntriesOk K xs es -> ∀ x ∈ xs, ∃ e ∈ es, x.born = e.born /\ VR K x.key e.key /\ VR K x.val e.val
 | [], [], _, x, hx => by simp at hx
 | y :: xs, e :: es, ⟨a, b, c, d⟩, x, hx => by
  rcases List.mem_cons.1 hx with h | h
  ·subst h; exact ⟨e, by simp, a, b, c⟩
  ·obtain ⟨f, hf, g⟩ := d.born x h;exact ⟨f, by simp [hf], g⟩
 | [], _ :: _, h, _, _ => h.elim
 | _ :: _, [], h, _, _ => h.elim
theorem Iu (H : HR K h w) {i pos : Nat} {s : List By8} {t : TypeId} {R : D -> Heap -> Prop} (hi : h i = some (.iter s pos))
  (hR : if pos < s.length then R (.tup [.bool true, .int .i64 pos, .int .i32 (Utf8.decode ⟨s.toArray⟩ pos).1]) (h.upd i (some (.iter s (pos + (Utf8.decode ⟨s.toArray⟩ pos).2)))) else R (.tup [.bool false]) h) :
  Does P K h w (Instr.next (.pointer (some ⟨K.io i, 0, none⟩)) true t) R := by
 have hx : w.heap[K.io i]? = some (.stringIter ⟨s.toArray⟩ pos) := H.ok i _ hi;have hg : (getObj (K.io i)).run P w = .ok (.stringIter ⟨s.toArray⟩ pos) w := by simp [getObj, Sem.run, hx]
 have hsz : (⟨s.toArray⟩ : ByteArray).size = s.length := by simp [ByteArray.size]
 by_cases hp : pos < s.length
 ·rw [if_pos hp] at hR;have hset := NN (P := P) (ob := .stringIter ⟨s.toArray⟩ (pos + (Utf8.decode ⟨s.toArray⟩ pos).2)) hx (by simp);have hH := H.setObj hi (by simp) (by simp) (y := .iter s (pos + (Utf8.decode ⟨s.toArray⟩ pos).2)) (by simp) (.stringIter ⟨s.toArray⟩ (pos + (Utf8.decode ⟨s.toArray⟩ pos).2)) (fun K' hK => by subst hK; exact SW (G3 H hi (o := 0) rfl));refine ⟨.tuple #[.bool true, goInt pos, .int .i32 (Utf8.decode ⟨s.toArray⟩ pos).1], _, _, K, _, ?_, Ext.refl K, hH, ?_, hR⟩
  ·simp [Instr.next, hg, hsz, hp, hset]
  ·refine .tup _ _ rfl (fun j => ?_)
   match j with
   | 0 => exact .bool _
   | 1 => exact .int _ _
   | 2 => exact .int _ _
   | j + 3 => exact .any _
 ·rw [if_neg hp] at hR;refine ⟨.tuple #[.bool false], w, _, K, h, by simp [Instr.next, hg, hsz, hp], Ext.refl K, H, ?_, hR⟩;refine .tup _ _ rfl (fun j => ?_)
  match j with
  | 0 => exact .bool _
  | j + 1 => exact .any _
theorem L0 (H : HR K h w) {it : D} {v : Value} {b : Bool} {t : TypeId} {R : D -> Heap -> Prop} (hv : VR K v it) (hR : Pa h it b R) : Does P K h w (Instr.next v b t) R := by
 unfold Pa at hR;split at hR
 ·rename_i i;split at hR
  ·rename_i s pos hi;cases hv;exact Iu H hi hR
  ·exact hR.elim
 ·exact hR.elim
end
end Go.Proofs.YtjofelloaofooaaGreatDoor
