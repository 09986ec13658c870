/- Calls that take a slice with a right to append: nil as nothing with such a right. No condition. -/
import Derived.Shelf.SlSortCmp.NoneTotal
import Derived.Recover
import Derived.Tactics
import Derived.Test.YtjofelloaofooaaGreatDoorEng34
set_option linter.unusedSimpArgs false
set_option linter.unusedVariables false
namespace Go.Proofs.YtjofelloaofooaaGreatDoor
theorem CallsA.ghost {P : Program} {f : FuncId} {ds : List D} {h : Heap} {O : List (Nat × AObj)} {R : D -> Heap -> Prop} (j q : Nat) (he : Ds P f = true) (ok : OK h O) (hj : ds[j]? = some .snil) (hc : ∀ r, r ≠ 0 -> OK h ((r, .room) :: O) -> CallsA P f (ds.set j (.sl q [] r)) (Hp h ((r, .room) :: O)) R) : CallsA P f ds (Hp h O) R :=
 .inl ⟨he, fun K w vs H hl hv => by
  obtain ⟨E, H'⟩ := H.ghost q;have hnz : K.nx ≠ 0 := by have := H.nz; omega
  obtain ⟨e1, e2⟩ := Hp_new (x := .room) ok H.fresh hnz;simp only [e1] at H';refine (((hc K.nx hnz e2).ent he).2 (K.ghost q) w vs H' (by simpa using hl) (fun i => ?_)).mono fun e w' ⟨v, d, K', h', a, b, c, dd, ee⟩ => ⟨v, d, K', h', a, E.trans b, c, dd, ee⟩
  by_cases hi : i = j
  ·subst hi;have hlt : i < ds.length := (List.getElem?_eq_some_iff.1 hj).1;have hvi := hv i;rw [show ds.getD i .any = .snil by rw [List.getD_eq_getElem?_getD, hj]; rfl] at hvi;rw [show (ds.set i (.sl q [] K.nx)).getD i .any = .sl q [] K.nx by rw [List.getD_eq_getElem?_getD, List.getElem?_set_self hlt]; rfl];generalize vs.getD i undef = z at hvi;cases hvi;exact .sln q K.nx (by simp [Kn.ghost])
  ·rw [show (ds.set j (.sl q [] K.nx)).getD i .any = ds.getD i .any by rw [List.getD_eq_getElem?_getD, List.getD_eq_getElem?_getD, List.getElem?_set_ne (Ne.symm hi)]]
   exact (hv i).mono E⟩
theorem WdC.eqR {cs cs' X : List D} (h : WdC cs cs') (e : X = cs') : WdC cs X := by rw [e]; exact h
section
variable {P : Program} {md : Nat -> Nat} {ops : Array Oper} {os : List Oper} {k : St -> Prop} {n : Nat} {l : List (Nat × D)} {h : Heap} {O : List (Nat × AObj)}
end

set_option linter.unusedSimpArgs false
set_option linter.unusedVariables false
def JS (pv : Value) : List PanicEntry := [{ v := pv, recovered := false }]
def CallsP (P : Program) (pv : Value) (f : FuncId) (args : List D) (h : Heap) (R : D -> Heap -> Prop) (Rp : Heap -> Prop) : Prop :=
 Ds P f = true /\ ∀ (K : Kn) (w : World) (vs : Array Value), HR K h w -> vs.size = args.length -> (∀ i, VR K (vs.getD i undef) (args.getD i .any)) ->
  Calls P f vs w fun e w' => (∃ v d K' h', e = .returned v /\ Ext K K' /\ HR K' h' w' /\ VR K' v d /\ R d h') \/ ∃ K' h', e = .panicked (JS pv) /\ Ext K K' /\ HR K' h' w' /\ Rp h'
theorem CallsP.mono {P : Program} {pv : Value} {f : FuncId} {args : List D} {h : Heap} {R S : D -> Heap -> Prop} {Rp Sp : Heap -> Prop} (c : CallsP P pv f args h R Rp) (hRS : ∀ d h', R d h' -> S d h') (hp : ∀ h', Rp h' -> Sp h') : CallsP P pv f args h S Sp :=
 ⟨c.1, fun K w vs H hl hv => (c.2 K w vs H hl hv).mono fun e w' hh => hh.imp (fun ⟨v, d, K', h', a, b, cc, dd, ee⟩ => ⟨v, d, K', h', a, b, cc, dd, hRS _ _ ee⟩) fun ⟨K', h', a, b, cc, dd⟩ => ⟨K', h', a, b, cc, hp _ dd⟩⟩
section
variable {P : Program} {pv : Value} {df : List Deferred}
def Yt (P : Program) (pv : Value) (o : Oper) (s : St) (k kp : St -> Prop) : Prop :=
 ∃ g c, o.op = .call c /\ c.callee = .value (.func g) /\ o.guard = none /\ CallsP P pv g (c.args.toList.map (opD s.sl)) s.h (fun d h' => k ⟨Ez s.sl o.dst d, h'⟩) (fun h' => kp ⟨s.sl, h'⟩)
theorem CallsP.arg {f : FuncId} {ds0 ds : List D} {h : Heap} {R : D -> Heap -> Prop} {Rp : Heap -> Prop} (hw : WdC ds0 ds) (c : CallsP P pv f ds h R Rp) : CallsP P pv f ds0 h R Rp :=
 ⟨c.1, fun K w vs H hl hv => c.2 K w vs H (hl.trans hw.l) fun i => (hw.c i).rel (hv i)⟩
theorem CallsP.ret {f : FuncId} {ds : List D} {h : Heap} {R : D -> Heap -> Prop} {Rp : Heap -> Prop} (c : CallsP P pv f ds h (fun d h' => ∃ d2 h2, Wd d d2 /\ WH h' h2 /\ R d2 h2) fun h' => ∃ h2, WH h' h2 /\ Rp h2) : CallsP P pv f ds h R Rp :=
 ⟨c.1, fun K w vs H hl hv => (c.2 K w vs H hl hv).mono fun e w' hh => hh.imp (fun ⟨v, d, K', h', a, b, cc, dd, d2, h2, w1, w2, r⟩ => ⟨v, d2, K', h2, a, b, cc.weaken w2, w1.rel dd, r⟩) fun ⟨K', h', a, b, cc, h2, w2, r⟩ => ⟨K', h2, a, b, cc.weaken w2, r⟩⟩
def RetPP (P : Program) (pv : Value) (fn : Func) (R : D -> Heap -> Prop) (Rp : Heap -> Prop) : Exit -> St -> Prop
 | .panic c, s => c = JS pv /\ Rp s.h
 | e, s => RetP P fn R e s
def pnc {σ α ρ : Type} (x : σ ⊕ α) (f : σ -> Option ρ) (g : α -> Option ρ) : Option ρ := match x with
 | .inl s => f s
 | .inr a => g a
theorem Exit.sel_pan {A : St -> Prop} {Q : Exit -> St -> Prop} {c : List PanicEntry} {s : St} (h : Q (.panic c) s) : Exit.sel A Q (.panic c) s := h
theorem Exit.blk_pan {i : Nat} {Q : Exit -> St -> Prop} {c : List PanicEntry} {s : St} (h : Q (.panic c) s) : Exit.blk i Q (.panic c) s := h
end

set_option linter.unusedSimpArgs false
set_option linter.unusedVariables false
set_option linter.unusedSectionVars false
open Go.Shelf Go.RowKit Go.Lib Go.Sort
def YO {T : Type} (cf : T -> T -> Int) : List T -> Bool
 | [] => true
 | x :: l => l.all (fun y => cf x y != 0) && YO cf l
def YU {T : Type} (cf : T -> T -> Int) (x : T) : List T -> List T
 | [] => [x]
 | y :: l => cond (decide (cf x y < 0)) (x :: y :: l) (y :: YU cf x l)
def YQ {T : Type} (cf : T -> T -> Int) : List T -> List T
 | [] => []
 | x :: l => YU cf x (YQ cf l)
def Zf {T : Type} (gd : T -> Bool) (cf : T -> T -> Int) (l : List T) : Option (List T) := if YO cf l && l.all gd && decide (l.length < 4611686018427387904) then some (YQ cf l) else none
section
variable {T : Type} {cf : T -> T -> Int}
end
structure SE (K : Kn) {T : Type} (gd : T -> Bool) (c : T -> List D) (k : Nat) where
 x : T
 hg : gd x = true
 vs : List Value
 hl : vs.length = k
 hv : LR K vs (c x)
theorem LR.of {K : Kn} : ∀ {vs : List Value} {ds : List D}, vs.length = ds.length -> (∀ j, j < vs.length -> (vs.getD j undef).oneCell' = true) -> (∀ j, VR K (vs.getD j undef) (ds.getD j .any)) -> LR K vs ds
 | [], [], _, _, _ => .nil
 | [], _ :: _, h, _, _ => by simp at h
 | _ :: _, [], h, _, _ => by simp at h
 | v :: vs, d :: ds, h, h1, h2 => .cons (by simpa using h1 0 (by simp)) (by simpa using h2 0) (LR.of (by simpa using h) (fun j hj => by simpa using h1 (j + 1) (by simpa using hj)) (fun j => by simpa using h2 (j + 1)))
section
variable {P : Program} {ρ : Ren} {T : Type} {K : Kn} {h : Heap} {w : World} {O : List (Nat × AObj)}
end

set_option linter.unusedSimpArgs false
set_option linter.unusedVariables false
section
variable {P : Program} {pv : Value} {md : Nat -> Nat} {k kp : St -> Prop}
def Wi (P : Program) (pv : Value) (md : Nat -> Nat) (l : List Oper) (k kp : St -> Prop) : Nat -> Array Bool -> St -> Prop
 | 0, L, s => Region.ready .any l.toArray L = [] /\ k s
 | f + 1, L, s => (Region.ready .any l.toArray L = [] -> k s) /\ ∀ i ∈ Region.ready .any l.toArray L, ∃ o, l[i]? = some o /\
   ((AO P md true l.toArray [o] s fun s' => Wi P pv md l k kp f (L.setIfInBounds i true) s') \/ AO P md true l.toArray [] s fun t => Yt P pv o t (fun s' => Wi P pv md l k kp f (L.setIfInBounds i true) s') kp)
def stP (P : Program) (pv : Value) (md : Nat -> Nat) (l : List Oper) (k kp : St -> Prop) (f : Nat) (L : Array Bool) (o : Oper) (s : St) : Prop :=
 (AO P md true l.toArray [o] s fun s' => Wi P pv md l k kp f L s') \/ AO P md true l.toArray [] s fun t => Yt P pv o t (fun s' => Wi P pv md l k kp f L s') kp
variable {l : List Oper} {s : St} {f : Nat} {L : Array Bool}
end

set_option linter.unusedSimpArgs false
set_option linter.unusedVariables false
def WU (pv : Value) : Bool -> FrameMode
 | true => .panicking (JS pv)
 | false => .returning
def CallsDA (P : Program) (pv : Value) (f : FuncId) (cap : List D) (b : Bool) (h : Heap) (R : Heap -> Prop) : Prop :=
 ∀ (K : Kn) (w : World) (vs : Array Value), HR K h w -> vs.size = cap.length -> (∀ i, VR K (vs.getD i undef) (cap.getD i .any)) ->
  CallsD P f vs (WU pv b) w fun e u' w' => (∃ v, e = .returned v) /\ settle u' = .returning /\ ∃ K' h', Ext K K' /\ HR K' h' w' /\ R h'
section
variable {P : Program} {pv : Value}
def DefQ (P : Program) (pv : Value) (g : FuncId) (cap : List D) (fn : Func) (R : D -> Heap -> Prop) : Exit -> St -> Prop
 | .normal, s | .ret, s => CallsDA P pv g cap false s.h fun h' => RetP P fn R .ret ⟨s.sl, h'⟩
 | .panic c, s => c = JS pv /\ CallsDA P pv g cap true s.h fun h' => RetP P fn R .ret ⟨s.sl, h'⟩
 | _, _ => False
end

set_option linter.unusedSimpArgs false
set_option linter.unusedVariables false
def YJ {α : Type} (q id : Nat) (a e : List α) : D := match id with
 | 0 => .snil
 | i + 1 => .msl q (i + 1) (a.length * q) e.length
def Zu {α : Type} (q id : Nat) (a : List α) (i : Int) (len : Nat) (b : List α) : D := if id = 0 then .snil else if i = 0 \/ i < (len : Int) then .msl q id (a.length * q + i.toNat * q) b.length else .sl q [] 0
section
variable {P : Program} {md : Nat -> Nat} {w : Bool} {ops : Array Oper} {os : List Oper} {k : St -> Prop} {n : Nat} {l : List (Nat × D)} {h : Heap} {d : Nat} {t ty : TypeId} {pos : String} {af : Array Edge} {x y z : Operand}
variable {β : Type} {G : β -> Prop} {O : List (Nat × AObj)} {α : Type} {c : α -> List D} {a e : List α} {q id : Nat}
end

set_option linter.unusedSimpArgs false
set_option linter.unusedVariables false
def Kn.frzR (K : Kn) (w : World) (id m q n cap : Nat) : Kn :=
 { K with mu := (fun b o => if b = K.io id then (if o < m then w.cell? ⟨b, o, none⟩ else none) else K.mu b o), ro := (fun i => if i = K.nx then ⟨K.io id, m, q, cap - n⟩ else K.ro i), nx := K.nx + 1 }
theorem HR.frzR {K : Kn} {h : Heap} {w : World} (H : HR K h w) {id : Nat} {cs : List D} (hx : h id = some (.cells cs)) {q n cap off : Nat} (hm : cs.length = off + n * q) (hn : n <= cap) (hc : off + cap * q <= K.sz id) :
  Ext K (K.frzR w id cs.length q n cap) /\ HR (K.frzR w id cs.length q n cap) ((h.upd id none).upd K.nx (some .room)) w := by
 obtain ⟨hl, hcs, _, hfz⟩ := H.ok id _ hx;have hlt := H.lt id _ hx;have h0 : id ≠ 0 := fun e => by have := H.z; rw [<- e, hx] at this; simp at this
 have E : Ext K (K.frzR w id cs.length q n cap) := by
  refine ⟨fun b o v hv => ?_, fun _ _ => rfl, fun _ _ => rfl, fun i hi => ?_, Nat.le_succ _, rfl, rfl⟩
  ·by_cases e : b = K.io id
   ·have := H.nomu id _ hx b o e; rw [hv] at this; simp at this
   ·simp only [Kn.frzR, if_neg e]; exact hv
  ·simp [Kn.frzR, Nat.ne_of_lt hi]
 have hne : id ≠ K.nx := Nat.ne_of_lt hlt;have hid' : ((h.upd id none).upd K.nx (some .room)) id = none := by rw [Heap.upd_ne _ _ hne, Heap.upd_same]
 refine ⟨E, HR.change (C := fun i => i = id \/ i = K.nx) H E (Keep.refl w (fun _ _ => False)) (fun _ _ h => h.elim) (fun j hj => .inl ?_) (fun b o v hv => ?_) ?_ (fun i z hi hz => ?_)⟩
 ·rw [Heap.upd_ne _ _ (fun e => hj (.inr e)), Heap.upd_ne _ _ (fun e => hj (.inl e))]
 ·by_cases e : b = K.io id
  ·right;simp only [Kn.frzR, if_pos e] at hv;split at hv
   ·rename_i ho;obtain ⟨u, hu, h1, _⟩ := hcs o (by omega);rw [<- e, hv] at hu;injection hu with hu
    subst hu;exact ⟨hv, h1, fun j y hj hy hoy => H.sep id j _ y (fun e' => hj (.inl e'.symm)) hx hy b o e hoy⟩
   ·simp at hv
  ·left; simpa only [Kn.frzR, if_neg e] using hv
 ·have := H.nz;rw [Heap.upd_ne _ _ (by omega), Heap.upd_ne _ _ (Ne.symm h0)]; exact H.z
 ·rcases hi with rfl | rfl
  ·rw [hid'] at hz; simp at hz
  ·rw [Heap.upd_same] at hz;injection hz with hz
   subst hz;have hro : (K.frzR w id cs.length q n cap).ro K.nx = ⟨K.io id, cs.length, q, cap - n⟩ := by simp [Kn.frzR]
   have hmul : cs.length + (cap - n) * q <= K.sz id := by
    rw [Nat.sub_mul, hm];have : n * q <= cap * q := Nat.mul_le_mul_right _ hn;omega
   refine ⟨Nat.lt_succ_self _, fun o h1 h2 => ?_, fun b o ho => ?_⟩
   ·rw [hro] at h1 h2 ⊢;simp only at h1 h2 ⊢;obtain ⟨u, hu, _⟩ := hcs o (by omega);exact ⟨u, hu, hfz o⟩
   ·obtain ⟨hb, h1, h2⟩ := ho;rw [hro] at hb h1 h2;simp only at hb h1 h2;refine ⟨H.ge id _ hx b o hb, ?_, fun j y hj hy hoy => H.sep id j _ y (fun e => hj (.inl e.symm)) hx hy b o hb hoy, fun j y hj hji hy => ?_⟩
    ·simp only [Kn.frzR, if_pos hb, if_neg (Nat.not_lt.2 h1)]
    ·rcases hj with rfl | rfl
     ·rw [hid'] at hy; simp at hy
     ·exact absurd rfl hji
theorem VR.frzR {K : Kn} {h : Heap} {w : World} (H : HR K h w) {id q : Nat} {bs es : List (List D)} (hx : h id = some (.cells (bs.flatten ++ es.flatten))) (ha : bs.flatten.length = bs.length * q) (hk : ∀ r ∈ es, r.length = q) {v : Value} (hv : VR K v (.msl q id (bs.length * q) es.length)) :
  ∃ cap, es.length <= cap /\ bs.length * q + cap * q <= K.sz id /\ VR (K.frzR w id (bs.flatten ++ es.flatten).length q es.length cap) v (.sl q es K.nx) := by
 obtain ⟨hn, hc, _, _⟩ := H.ok id _ hx;have hfl : es.flatten.length = es.length * q := by
  have := (BX q es (fun i hi => by simpa [List.getD, hi] using hk _ (bn hi))).1;exact this
 cases hv with
 | msl _ _ _ _ cap hid hcn hcap =>
  refine ⟨cap, hcn, hcap, ?_⟩;have E := (H.frzR hx (q := q) (n := es.length) (cap := cap) (off := bs.length * q) (by rw [bm, ha, hfl]) hcn hcap).1;have hlen : (bs.flatten ++ es.flatten).length = bs.length * q + es.flatten.length := by rw [bm, ha]
  refine .sl (K.io id) (bs.length * q) q es K.nx cap (fun i j => (w.cell? ⟨K.io id, bs.length * q + i * q + j, none⟩).getD undef) (fun i hi => by simpa [List.getD, hi] using hk _ (bn hi)) (fun i j hi hj => ?_) (fun i j => ?_) hcn (fun _ => ⟨Nat.lt_succ_self _, ?_, ?_⟩)
  ·obtain ⟨e, hlt⟩ := JP hk hi hj;obtain ⟨u, hu, _⟩ := hc (bs.length * q + i * q + j) (by omega);have hlt' : bs.length * q + i * q + j < (bs.flatten ++ es.flatten).length := by omega
   simp only [Kn.frzR, if_true, if_pos hlt', hu, Option.getD_some]
  ·by_cases hi : i < es.length
   ·by_cases hj : j < q
    ·obtain ⟨e, hlt⟩ := JP hk hi hj;obtain ⟨u, hu, _, hur⟩ := hc (bs.length * q + i * q + j) (by omega);have e2 : (bs.flatten ++ es.flatten).getD (bs.length * q + i * q + j) .any = es.flatten.getD (i * q + j) .any := by
      rw [List.getD_eq_getElem?_getD, List.getElem?_append_right (by omega), <- List.getD_eq_getElem?_getD];congr 1;omega
     rw [e2, e] at hur;rw [hu, Option.getD_some];exact hur.mono E
    ·have : (es.getD i []).length = q := by simpa [List.getD, hi] using hk _ (bn hi)
     rw [List.getD_eq_getElem?_getD, List.getElem?_eq_none (by omega)]; exact .any _
   ·have : es.getD i [] = [] := by simp [List.getD, Nat.le_of_not_lt hi]
    rw [this]; exact .any _
  ·simp only [Kn.frzR, if_true, hlen, hfl]
  ·exact H.ge id _ hx _ 0 rfl
def Aaw {α : Type} (e : List α) (i j : Int) : Option (List α) := if 0 <= i /\ i < j /\ j <= (e.length : Int) then some ((e.drop i.toNat).take (j.toNat - i.toNat)) else none
section
variable {P : Program} {md : Nat -> Nat} {ops : Array Oper} {os : List Oper} {k : St -> Prop} {n : Nat} {l : List (Nat × D)} {h : Heap} {d : Nat} {t ty : TypeId} {pos : String} {af : Array Edge} {x y z : Operand}
variable {β : Type} {G : β -> Prop} {O : List (Nat × AObj)} {α : Type} {c : α -> List D} {a e : List α} {q id : Nat}
end
end Go.Proofs.YtjofelloaofooaaGreatDoor
