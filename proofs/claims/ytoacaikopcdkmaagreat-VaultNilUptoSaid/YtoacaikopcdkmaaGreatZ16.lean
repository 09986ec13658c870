/- The cache: its ring of entries. The cache in memory: find, Get. The cache in memory: Drop, Clean. No condition. -/
import Derived.Test.YtoacaikopcdkmaaGreatZ15
import Derived.Test.YtoacaikopcdkmaaGreatZ07
set_option linter.unusedSimpArgs false
set_option linter.unusedVariables false
namespace Go.Proofs.YtoacaikopcdkmaaGreat
open Go.RowKit Go.Sort Go.MapKept Go.Maps Go.WideElems Go.ChangeMaps
/-- An entry: its key, its bytes, dirty, its block, its row. -/
structure Nd where
  key : Nat
  val : List UInt8
  dirty : Bool
  b : Nat
  v : Value
def pB (b : Nat) : Value := .pointer (some ⟨b, 0, none⟩)
def eC (x : Nd) (pv nx : Nat) : Array Value := #[kV x.key, x.v, .bool x.dirty, .int .i64 0, pB pv, pB nx]
def Ents (w : World) (N : List Nd) (nx pv : Nat → Nat) : Prop := ∀ x ∈ N, w.heap[x.b]? = some (.cells (eC x (pv x.b) (nx x.b)) 149 (0, 0))
def upd (f : Nat → Nat) (a b : Nat) : Nat → Nat := fun x => if x = a then b else f x
theorem upd_same (f : Nat → Nat) (a b : Nat) : upd f a b a = b := if_pos rfl
theorem upd_ne (f : Nat → Nat) {a x : Nat} (b : Nat) (h : x ≠ a) : upd f a b x = f x := if_neg h
theorem Ents.set5 {w : World} {N : List Nd} {nx pv : Nat → Nat} (h : Ents w N nx pv) (p q : Nat) : Ents (w.setCell ⟨p, 5, none⟩ (pB q)) N (upd nx p q) pv := fun x hx => by
  by_cases e : x.b = p
  · subst e
    rw [upd_same]
    exact heap_setCell_at (i := 5) _ (h x hx)
  · rw [upd_ne _ _ e, Below.heap_setCell _ _ _ _ e]
    exact h x hx
theorem Ents.set4 {w : World} {N : List Nd} {nx pv : Nat → Nat} (h : Ents w N nx pv) (p q : Nat) : Ents (w.setCell ⟨p, 4, none⟩ (pB q)) N nx (upd pv p q) := fun x hx => by
  by_cases e : x.b = p
  · subst e
    rw [upd_same]
    exact heap_setCell_at (i := 4) _ (h x hx)
  · rw [upd_ne _ _ e, Below.heap_setCell _ _ _ _ e]
    exact h x hx
theorem Ents.drew {w : World} {N nx pv} (h : Ents w N nx pv) : Ents w.drew N nx pv := h
theorem Ents.c4 {w : World} {N nx pv} (h : Ents w N nx pv) {x : Nd} (hx : x ∈ N) : w.cell? ⟨x.b, 4, none⟩ = some (.pointer (some ⟨pv x.b, 0, none⟩)) := cell_at (h x hx) rfl
theorem Ents.c5 {w : World} {N nx pv} (h : Ents w N nx pv) {x : Nd} (hx : x ∈ N) : w.cell? ⟨x.b, 5, none⟩ = some (.pointer (some ⟨nx x.b, 0, none⟩)) := cell_at (h x hx) rfl
theorem Ents.fz {w : World} {N nx pv} (h : Ents w N nx pv) {x : Nd} (hx : x ∈ N) (i : Nat) : w.frozen? ⟨x.b, i, none⟩ = false := frozen_at (h x hx)
def eX (x : Nd) (u4 u5 : Value) : Array Value := #[kV x.key, x.v, .bool x.dirty, .int .i64 0, u4, u5]
def Chn (nx pv : Nat → Nat) : List Nat → Prop
  | p :: q :: l => nx p = q ∧ pv q = p ∧ Chn nx pv (q :: l)
  | _ => True
theorem Chn.app {nx pv : Nat → Nat} {a : Nat} : ∀ {l1 l2 : List Nat}, Chn nx pv (l1 ++ a :: l2) ↔ Chn nx pv (l1 ++ [a]) ∧ Chn nx pv (a :: l2)
  | [], l2 => ⟨fun h => ⟨trivial, h⟩, fun h => h.2⟩
  | [p], l2 => ⟨fun h => ⟨⟨h.1, h.2.1, trivial⟩, h.2.2⟩, fun h => ⟨h.1.1, h.1.2.1, h.2⟩⟩
  | p :: q :: l1, l2 => by
    have ih := Chn.app (nx := nx) (pv := pv) (a := a) (l1 := q :: l1) (l2 := l2)
    simp only [List.cons_append, Chn] at ih ⊢
    rw [ih]
    exact ⟨fun h => ⟨⟨h.1, h.2.1, h.2.2.1⟩, h.2.2.2⟩, fun h => ⟨h.1.1, h.1.2.1, h.1.2.2, h.2⟩⟩
theorem Chn.congr {nx pv nx' pv' : Nat → Nat} : ∀ {l : List Nat}, Chn nx pv l → (∀ x ∈ l.dropLast, nx' x = nx x) → (∀ x ∈ l.tail, pv' x = pv x) → Chn nx' pv' l
  | [], _, _, _ => trivial
  | [_], _, _, _ => trivial
  | p :: q :: l, h, h1, h2 => by
    refine ⟨(h1 p (by simp)).trans h.1, (h2 q (by simp)).trans h.2.1, Chn.congr h.2.2 (fun x hx => h1 x ?_) (fun x hx => h2 x ?_)⟩
    · rw [List.dropLast_cons_of_ne_nil (by simp)]; exact List.mem_cons_of_mem _ hx
    · rw [List.tail_cons] at hx ⊢; exact List.mem_cons_of_mem _ hx
/-- x is taken out of a chain. -/
theorem Chn.out {nx pv : Nat → Nat} {r x : Nat} {l1 l2 : List Nat} (h : Chn nx pv (r :: (l1 ++ x :: l2) ++ [r])) (hn : (r :: (l1 ++ x :: l2)).Nodup) :
    ∃ p q, nx x = q ∧ pv x = p ∧ p ∈ r :: (l1 ++ l2) ∧ q ∈ r :: (l1 ++ l2) ∧ Chn (upd nx p q) (upd pv q p) (r :: (l1 ++ l2) ++ [r]) := by
  obtain ⟨A, p, hA⟩ : ∃ A p, r :: l1 = A ++ [p] := ⟨(r :: l1).dropLast, (r :: l1).getLast (by simp), (List.dropLast_concat_getLast (by simp)).symm⟩
  obtain ⟨q, B, hB⟩ : ∃ q B, l2 ++ [r] = q :: B := by cases l2 with
    | nil => exact ⟨r, [], rfl⟩
    | cons a l => exact ⟨a, l ++ [r], rfl⟩
  have e1 : r :: (l1 ++ x :: l2) ++ [r] = A ++ p :: (x :: q :: B) := by
    rw [← hB, List.cons_append, List.append_assoc, List.cons_append, ← List.cons_append, hA, List.append_assoc]; rfl
  have e2 : r :: (l1 ++ l2) ++ [r] = A ++ p :: (q :: B) := by
    rw [← hB, List.cons_append, List.append_assoc, ← List.cons_append, hA, List.append_assoc]; rfl
  have hp : p ∈ r :: l1 := by rw [hA]; simp
  have hq : q ∈ l2 ++ [r] := by rw [hB]; simp
  rw [e1, Chn.app] at h
  obtain ⟨c1, c2, c3, c4, c5, c6⟩ := h
  have hn' : (r :: l1).Nodup ∧ l2.Nodup ∧ (∀ a ∈ r :: l1, a ∉ l2) := by
    rw [← List.cons_append, List.nodup_append] at hn
    obtain ⟨n1, n2, n3⟩ := hn
    rw [List.nodup_cons] at n2
    exact ⟨n1, n2.2, fun a ha hb => n3 a ha a (List.mem_cons_of_mem _ hb) rfl⟩
  obtain ⟨n1, n2, n3⟩ := hn'
  refine ⟨p, q, c4, c3, ?_, ?_, ?_⟩
  · rw [← List.cons_append]; exact List.mem_append_left _ hp
  · rcases List.mem_append.1 hq with h | h
    · exact List.mem_cons_of_mem _ (List.mem_append_right _ h)
    · rw [List.mem_singleton.1 h]; exact List.mem_cons_self
  · rw [e2, Chn.app]
    have hpA : p ∉ A := by
      rw [hA, List.nodup_append] at n1
      exact fun h => n1.2.2 p h p (by simp) rfl
    have hqB : q ∉ B := by
      have : (l2 ++ [r]).Nodup := by
        rw [List.nodup_append]
        exact ⟨n2, by simp, fun a ha b hb e => n3 r List.mem_cons_self (by rw [← List.mem_singleton.1 hb, ← e]; exact ha)⟩
      rw [hB, List.nodup_cons] at this
      exact this.1
    have hdl : (q :: B).dropLast = l2 := by rw [← hB, List.dropLast_concat]
    have hAt : (A ++ [p]).tail = l1 := by rw [← hA]; rfl
    refine ⟨c1.congr (fun y hy => ?_) (fun y hy => ?_), upd_same _ _ _, upd_same _ _ _, c6.congr (fun y hy => ?_) (fun y hy => ?_)⟩
    · rw [List.dropLast_concat] at hy
      exact upd_ne _ _ fun e => hpA (e ▸ hy)
    · rw [hAt] at hy
      refine upd_ne _ _ fun e => ?_
      subst e
      rcases List.mem_append.1 hq with h | h
      · exact n3 y (List.mem_cons_of_mem _ hy) h
      · rw [List.mem_singleton.1 h] at hy; exact (List.nodup_cons.1 n1).1 hy
    · rw [hdl] at hy
      exact upd_ne _ _ fun e => n3 p hp (e ▸ hy)
    · exact upd_ne _ _ fun e => hqB (e ▸ hy)
/-- x is put at the chain's end. -/
theorem Chn.put {nx pv : Nat → Nat} {r x : Nat} {l : List Nat} (h : Chn nx pv (r :: l ++ [r])) (hn : (r :: l).Nodup) (hx : x ∉ r :: l) :
    pv r ∈ r :: l ∧ Chn (upd (upd nx x r) (pv r) x) (upd (upd pv x (pv r)) r x) (r :: (l ++ [x]) ++ [r]) := by
  obtain ⟨A, p, hA⟩ : ∃ A p, r :: l = A ++ [p] := ⟨(r :: l).dropLast, (r :: l).getLast (by simp), (List.dropLast_concat_getLast (by simp)).symm⟩
  have hp : p ∈ r :: l := by rw [hA]; simp
  have e1 : r :: l ++ [r] = A ++ p :: [r] := by rw [hA, List.append_assoc]; rfl
  rw [e1, Chn.app] at h
  obtain ⟨c1, c2, c3, -⟩ := h
  have e2 : r :: (l ++ [x]) ++ [r] = A ++ p :: [x, r] := by rw [← List.cons_append, hA]; simp
  rw [c3]
  refine ⟨hp, ?_⟩
  rw [e2, Chn.app]
  have hpA : p ∉ A := by
    rw [hA, List.nodup_append] at hn
    exact fun h => hn.2.2 p h p (by simp) rfl
  have hxp : x ≠ p := fun e => hx (e ▸ hp)
  have hxr : x ≠ r := fun e => hx (e ▸ List.mem_cons_self)
  have hAt : (A ++ [p]).tail = l := by rw [← hA]; rfl
  refine ⟨c1.congr (fun y hy => ?_) (fun y hy => ?_), upd_same _ _ _, ?_, ?_, upd_same _ _ _, trivial⟩
  · rw [List.dropLast_concat] at hy
    rw [upd_ne _ _ (fun (e : y = p) => hpA (e ▸ hy)), upd_ne]
    rintro rfl
    exact hx (by rw [hA]; exact List.mem_append_left _ hy)
  · rw [hAt] at hy
    rw [upd_ne _ _ (fun (e : y = r) => (List.nodup_cons.1 hn).1 (e ▸ hy)), upd_ne]
    rintro rfl
    exact hx (List.mem_cons_of_mem _ hy)
  · rw [upd_ne _ _ hxr, upd_same]
  · rw [upd_ne _ _ hxp, upd_same]
/-- x leaves the ring. -/
theorem c_out (κ : Nat → Nat) (k : Nat) (N : List Nd) (nx pv : Nat → Nat) (x p q : Nd) (w : World) (h : Ents w N nx pv) (hx : x ∈ N) (hp : p ∈ N) (hq : q ∈ N) (e1 : pv x.b = p.b) (e2 : nx x.b = q.b) (h1 : p.b ≠ x.b) (h2 : q.b ≠ x.b) (hc : κ p.b = k) (hc2 : κ q.b = k) :
    Calls Tryz.prog 119 #[.pointer (some ⟨x.b, 0, none⟩)] w fun e w' => e = .returned (.tuple #[]) ∧ Ents w' N (upd nx p.b q.b) (upd pv q.b p.b) ∧ To (fun j => j = k) κ κ w w' := by
  have c4 := h.c4 hx
  have c5 := h.c5 hx
  rw [e1] at c4
  rw [e2] at c5
  have d5 := h.c5 hp
  have d4 := h.c4 hq
  have f5 := h.fz hp 5
  have f4 := h.fz hq 4
  obtain ⟨xb, hxb⟩ : ∃ xb, Hid (x.b = xb) := ⟨_, Hid.mk rfl⟩
  obtain ⟨pb, hpb⟩ : ∃ xb, Hid (p.b = xb) := ⟨_, Hid.mk rfl⟩
  obtain ⟨qb, hqb⟩ : ∃ xb, Hid (q.b = xb) := ⟨_, Hid.mk rfl⟩
  have hk1 := Hid.mk hc
  have hk2 := Hid.mk hc2
  clear hc hc2 e1 e2
  rw [hxb.out] at c4 c5 h1 h2 ⊢
  rw [hpb.out] at c4 d5 f5 h1 hk1 ⊢
  rw [hqb.out] at c5 d4 f4 h2 hk2 ⊢
  have h' := Hid.mk h
  clear h
  go_enter Tryz.func119, Tryz.ntmps119
  go_wp2
  go_region_held3 (fun w' => w'.cell? ⟨xb, 4, none⟩ = some (.pointer (some ⟨pb, 0, none⟩)) ∧ w'.cell? ⟨xb, 5, none⟩ = some (.pointer (some ⟨qb, 0, none⟩))) (go_keep) (fail)
  go_wp2
  go_end0
  exact ⟨rfl, ((h'.out.drew.set5 pb qb).set4 qb pb), ((To.refl _ κ w).drew.setCell _ (fun _ => hk1.out)).setCell _ (fun _ => hk2.out)⟩
/-- x is in no ring yet. -/
theorem c_out0 (xb : Nat) (w : World) (h : w.cell? ⟨xb, 4, none⟩ = some (.pointer none)) : Calls Tryz.prog 119 #[.pointer (some ⟨xb, 0, none⟩)] w fun e w' => e = .returned (.tuple #[]) ∧ w' = w := by
  go_enter Tryz.func119, Tryz.ntmps119
  go_wp2
  go_end0
  exact ⟨rfl, rfl⟩
/-- The ring about the block r holds the entries R, the one used longest ago first. -/
def rN (r : Nat) : Nd := ⟨0, [], false, r, .slice none 0 0⟩
structure RingB (w : World) (r : Nat) (R : List Nd) (nx pv : Nat → Nat) : Prop where
  ents : Ents w (rN r :: R) nx pv
  chn : Chn nx pv (r :: R.map (·.b) ++ [r])
  nd : (r :: R.map (·.b)).Nodup
def RingAt (w : World) (r : Nat) (R : List Nd) : Prop := ∃ nx pv, RingB w r R nx pv
theorem c_outR (κ : Nat → Nat) (k r : Nat) (l1 l2 : List Nd) (x : Nd) (w : World) (h : RingAt w r (l1 ++ x :: l2)) (hc : ∀ y ∈ rN r :: (l1 ++ x :: l2), κ y.b = k) :
    Calls Tryz.prog 119 #[.pointer (some ⟨x.b, 0, none⟩)] w fun e w' => e = .returned (.tuple #[]) ∧ RingAt w' r (l1 ++ l2) ∧ (∃ u4 u5, w'.heap[x.b]? = some (.cells (eX x u4 u5) 149 (0, 0))) ∧ To (fun j => j = k) κ κ w w' := by
  obtain ⟨nx, pv, h⟩ := h
  have e0 : (l1 ++ x :: l2).map (·.b) = l1.map (·.b) ++ x.b :: l2.map (·.b) := by simp
  have hn := h.nd
  have hch := h.chn
  rw [e0] at hn hch
  obtain ⟨p, q, h1, h2, h3, h4, h5⟩ := hch.out hn
  have find : ∀ b, b ∈ r :: (l1.map (·.b) ++ l2.map (·.b)) → ∃ y ∈ rN r :: (l1 ++ l2), y.b = b := fun b hb => by
    rcases List.mem_cons.1 hb with rfl | hb
    · exact ⟨rN b, List.mem_cons_self, rfl⟩
    · rw [← List.map_append] at hb
      obtain ⟨y, hy, rfl⟩ := List.mem_map.1 hb
      exact ⟨y, List.mem_cons_of_mem _ hy, rfl⟩
  have sub : ∀ y ∈ rN r :: (l1 ++ l2), y ∈ rN r :: (l1 ++ x :: l2) := fun y hy => by
    rcases List.mem_cons.1 hy with rfl | hy
    · exact List.mem_cons_self
    · refine List.mem_cons_of_mem _ ?_
      rcases List.mem_append.1 hy with hy | hy
      · exact List.mem_append_left _ hy
      · exact List.mem_append_right _ (List.mem_cons_of_mem _ hy)
  have hxn : ∀ b, b ∈ r :: (l1.map (·.b) ++ l2.map (·.b)) → b ≠ x.b := fun b hb e => by
    subst e
    rcases List.mem_cons.1 hb with e | hb
    · exact (List.nodup_cons.1 hn).1 (by rw [← e]; simp)
    · have hn2 := (List.nodup_cons.1 hn).2
      rw [List.nodup_append, List.nodup_cons] at hn2
      rcases List.mem_append.1 hb with hb | hb
      · exact hn2.2.2 _ hb _ List.mem_cons_self rfl
      · exact hn2.2.1.1 hb
  obtain ⟨P, hP, rfl⟩ := find p h3
  obtain ⟨Q, hQ, rfl⟩ := find q h4
  have hx : x ∈ rN r :: (l1 ++ x :: l2) := by simp
  refine (c_out κ k _ nx pv x P Q w h.ents hx (sub _ hP) (sub _ hQ) h2 h1 (hxn _ h3) (hxn _ h4) (hc _ (sub _ hP)) (hc _ (sub _ hQ))).mono ?_
  rintro e w' ⟨rfl, hE, hT⟩
  refine ⟨rfl, ⟨_, _, fun y hy => hE y (sub y hy), by rw [List.map_append]; exact h5, ?_⟩, ⟨_, _, hE x hx⟩, hT⟩
  rw [List.map_append]
  refine hn.sublist (List.Sublist.cons_cons _ (List.Sublist.append (List.Sublist.refl _) (List.sublist_cons_self _ _)))
theorem ents_snoc {w : World} {N : List Nd} {nx pv : Nat → Nat} (h : Ents w N nx pv) {x : Nd} (hx : w.heap[x.b]? = some (.cells (eX x (pB (pv x.b)) (pB (nx x.b))) 149 (0, 0))) : Ents w (N ++ [x]) nx pv := fun y hy => by
  rcases List.mem_append.1 hy with hy | hy
  · exact h y hy
  · rw [List.mem_singleton.1 hy]; exact hx
theorem use_mid {κ : Nat → Nat} {k r xb pb : Nat} {R : List Nd} {x : Nd} {w1 : World} {nx pv : Nat → Nat} {u4 u5 u6 : Value} (hxb : x.b = xb) (hX : w1.heap[xb]? = some (.cells (eX x u4 u5) 149 (0, 0))) (hR : RingB w1 r R nx pv) (hx : xb ∉ r :: R.map (·.b)) (hpx : xb ≠ pb) (hkx : κ xb = k) {w : World} (hT : To (fun j => j = k) κ κ w w1)
    (cr4 : w1.cell? ⟨r, 4, none⟩ = some (.pointer (some ⟨pb, 0, none⟩))) (cp5 : w1.cell? ⟨pb, 5, none⟩ = some u6) (fr4 : w1.frozen? ⟨r, 4, none⟩ = false) (fp5 : w1.frozen? ⟨pb, 5, none⟩ = false) (W : World) (hW : W = ((w1.setCell ⟨xb, 4, none⟩ (.pointer (some ⟨pb, 0, none⟩))).setCell ⟨xb, 5, none⟩ (.pointer (some ⟨r, 0, none⟩))).drew) :
    W.cell? ⟨xb, 4, none⟩ = some (.pointer (some ⟨pb, 0, none⟩)) ∧ W.cell? ⟨xb, 5, none⟩ = some (.pointer (some ⟨r, 0, none⟩)) ∧ W.cell? ⟨r, 4, none⟩ = some (.pointer (some ⟨pb, 0, none⟩)) ∧ W.frozen? ⟨r, 4, none⟩ = false ∧ W.cell? ⟨pb, 5, none⟩ = some u6 ∧ W.frozen? ⟨pb, 5, none⟩ = false ∧
      Hid (Ents W (rN r :: (R ++ [x])) (upd nx xb r) (upd pv xb pb)) ∧ Hid (To (fun j => j = k) κ κ w W) := by
  have hb : W.heap[xb]? = some (.cells (eX x (pB pb) (pB r)) 149 (0, 0)) := by
    rw [hW]
    exact heap_setCell_at (i := 5) _ (heap_setCell_at (i := 4) _ hX)
  have ho : ∀ b, b ≠ xb → W.heap[b]? = w1.heap[b]? := fun b hb => by
    rw [hW]
    exact (Below.heap_setCell _ _ _ _ hb).trans (Below.heap_setCell _ _ _ _ hb)
  have hrx : r ≠ xb := fun e => hx (by rw [e]; exact List.mem_cons_self)
  have hfr : W.frozen? ⟨r, 4, none⟩ = false := by
    have := hR.ents (rN r) List.mem_cons_self
    exact frozen_at ((ho r hrx).trans this)
  refine ⟨cell_at hb rfl, cell_at hb rfl, ?_, hfr, ?_, ?_, Hid.mk ?_, Hid.mk ?_⟩
  · rw [World.cell?_of_block (ho r hrx)]; exact cr4
  · rw [World.cell?_of_block (ho pb (Ne.symm hpx))]; exact cp5
  · rw [hW]; simpa using fp5
  · have e : rN r :: (R ++ [x]) = (rN r :: R) ++ [x] := rfl
    rw [e]
    refine ents_snoc (fun y hy => ?_) (by rw [hxb, upd_same, upd_same]; exact hb)
    have hyx : y.b ≠ xb := fun e => hx (by
      rcases List.mem_cons.1 hy with rfl | hy
      · rw [← e]; exact List.mem_cons_self
      · rw [← e]; exact List.mem_cons_of_mem _ (List.mem_map.2 ⟨y, hy, rfl⟩))
    rw [ho _ hyx, upd_ne _ _ hyx, upd_ne _ _ hyx]
    exact hR.ents y hy
  · rw [hW]
    exact (((hT.setCell _ (fun _ => hkx)).setCell _ (fun _ => hkx))).drew
/-- x is used: it goes to the ring's end. -/
theorem c_use (κ : Nat → Nat) (k a r : Nat) (R : List Nd) (x : Nd) (w : World) (ha2 : w.cell? ⟨a, 2, none⟩ = some (.pointer (some ⟨r, 0, none⟩))) (ha : a < w.heap.size) (hak : κ a ≠ k)
    (cO : Calls Tryz.prog 119 #[.pointer (some ⟨x.b, 0, none⟩)] w fun e w' => e = .returned (.tuple #[]) ∧ RingAt w' r R ∧ (∃ u4 u5, w'.heap[x.b]? = some (.cells (eX x u4 u5) 149 (0, 0))) ∧ To (fun j => j = k) κ κ w w')
    (hx : x.b ∉ r :: R.map (·.b)) (hc : ∀ y ∈ rN r :: R, κ y.b = k) (hcx : κ x.b = k) :
    Calls Tryz.prog 114 #[.pointer (some ⟨a, 0, none⟩), .pointer (some ⟨x.b, 0, none⟩)] w fun e w' => e = .returned (.tuple #[]) ∧ RingAt w' r (R ++ [x]) ∧ To (fun j => j = k) κ κ w w' := by
  obtain ⟨xb, hxb⟩ : ∃ xb, Hid (x.b = xb) := ⟨_, Hid.mk rfl⟩
  have hxr : r ≠ xb := fun e => hx (by rw [hxb.out, ← e]; exact List.mem_cons_self)
  have hkr : Hid (κ r = k) := Hid.mk (hc (rN r) List.mem_cons_self)
  have hkx : Hid (κ xb = k) := by show _ = _; rw [← hxb.out]; exact hcx
  have hax : a ≠ xb := fun e => hak (by rw [e]; exact hkx.out)
  have har : a ≠ r := fun e => hak (by rw [e]; exact hkr.out)
  have hxr2 : xb ≠ r := Ne.symm hxr
  have hax2 : xb ≠ a := Ne.symm hax
  have hx' := Hid.mk hx
  have hc' := Hid.mk hc
  have hak' := Hid.mk hak
  have cO' : Calls Tryz.prog 119 #[.pointer (some ⟨xb, 0, none⟩)] w fun e w' => e = .returned (.tuple #[]) ∧ ∃ (nx pv : Nat → Nat) (pb : Nat) (u4 u5 u6 : Value), pb ≠ xb ∧ Hid (κ pb = k) ∧ w'.cell? ⟨a, 2, none⟩ = some (.pointer (some ⟨r, 0, none⟩)) ∧ w'.cell? ⟨r, 4, none⟩ = some (.pointer (some ⟨pb, 0, none⟩)) ∧ w'.frozen? ⟨r, 4, none⟩ = false ∧
      w'.cell? ⟨xb, 4, none⟩ = some u4 ∧ w'.cell? ⟨xb, 5, none⟩ = some u5 ∧ w'.frozen? ⟨xb, 4, none⟩ = false ∧ w'.frozen? ⟨xb, 5, none⟩ = false ∧ w'.cell? ⟨pb, 5, none⟩ = some u6 ∧ w'.frozen? ⟨pb, 5, none⟩ = false ∧
      Hid (To (fun j => j = k) κ κ w w') ∧ Hid (w'.heap[xb]? = some (.cells (eX x u4 u5) 149 (0, 0))) ∧ Hid (RingB w' r R nx pv) ∧ Hid (pv r = pb) := by
    rw [← hxb.out]
    refine cO.mono ?_
    rintro e w' ⟨rfl, ⟨nx, pv, hR⟩, ⟨u4, u5, hX⟩, hT⟩
    obtain ⟨h1, h2⟩ := hR.chn.put hR.nd hx
    obtain ⟨P, hP, hPb⟩ : ∃ y ∈ rN r :: R, y.b = pv r := by
      rcases List.mem_cons.1 h1 with e | h1
      · exact ⟨rN r, List.mem_cons_self, e.symm⟩
      · obtain ⟨y, hy, e⟩ := List.mem_map.1 h1
        exact ⟨y, List.mem_cons_of_mem _ hy, e⟩
    have hr : (rN r).b = r := rfl
    refine ⟨rfl, nx, pv, pv r, u4, u5, .pointer (some ⟨nx (pv r), 0, none⟩), fun e => hx (e ▸ h1), Hid.mk (by rw [← hPb]; exact hc P hP), ?_, hR.ents.c4 (x := rN r) List.mem_cons_self, hR.ents.fz (x := rN r) List.mem_cons_self 4, cell_at hX rfl, cell_at hX rfl, frozen_at hX, frozen_at hX, ?_, ?_, Hid.mk hT, Hid.mk hX, Hid.mk hR, Hid.mk rfl⟩
    · rw [World.cell?_of_block (hT.blk a ha hak)]; exact ha2
    · rw [← hPb]; exact hR.ents.c5 hP
    · rw [← hPb]; exact hR.ents.fz hP 5
  rw [hxb.out]
  clear cO hx hc hcx hak ha2
  go_enter Tryz.func114, Tryz.ntmps114
  go_wp2_with (go_at_call 119; refine cO'.mono ?_; rintro e w1 ⟨rfl, nx, pv, pb, u4, u5, u6, hpx, hkp, c2, cr4, fr4, cx4, cx5, fx4, fx5, cp5, fp5, hT, hX, hR, hpv⟩)
  have hpx2 : xb ≠ pb := Ne.symm hpx
  go_region_held3 (fun w' => w'.cell? ⟨a, 2, none⟩ = some (.pointer (some ⟨r, 0, none⟩)) ∧ w'.cell? ⟨r, 4, none⟩ = some (.pointer (some ⟨pb, 0, none⟩))) (go_keep) (fail)
  obtain ⟨W, hW⟩ : ∃ W, Hid (W = ((w1.setCell ⟨xb, 4, none⟩ (.pointer (some ⟨pb, 0, none⟩))).setCell ⟨xb, 5, none⟩ (.pointer (some ⟨r, 0, none⟩))).drew) := ⟨_, Hid.mk rfl⟩
  rw [← hW.out]
  obtain ⟨m1, m2, m3, m4, m5, m6, mE, mT⟩ := use_mid (κ := κ) (k := k) hxb.out hX.out hR.out (by rw [← hxb.out]; exact hx'.out) hpx2 hkx.out hT.out cr4 cp5 fr4 fp5 W hW.out
  go_wp2
  go_region_held3 (fun w' => w'.cell? ⟨xb, 4, none⟩ = some (.pointer (some ⟨pb, 0, none⟩)) ∧ w'.cell? ⟨xb, 5, none⟩ = some (.pointer (some ⟨r, 0, none⟩))) (go_keep) (fail)
  go_wp2
  go_end0
  have hch := hR.out.chn.put hR.out.nd hx'.out
  rw [hxb.out, hpv.out] at hch
  refine ⟨rfl, ⟨upd (upd nx xb r) pb xb, upd (upd pv xb pb) r xb, ?_, ?_, ?_⟩, ?_⟩
  · exact (mE.out.set5 pb xb).set4 r xb
  · rw [List.map_append, List.map_singleton, hxb.out]; exact hch.2
  · rw [List.map_append, ← List.cons_append, List.nodup_append]
    refine ⟨hR.out.nd, by simp, fun a ha b hb e => hx'.out ?_⟩
    have hb' : b = x.b := by simpa using hb
    rw [← hb', ← e]; exact ha
  · exact ((mT.out.setCell _ (fun _ => hkp.out)).setCell _ (fun _ => hkr.out)).drew
end Go.Proofs.YtoacaikopcdkmaaGreat

namespace Go.Proofs.YtoacaikopcdkmaaGreat
open Go.RowKit Go.Sort Go.MapKept Go.Maps Go.WideElems Go.ChangeMaps
/-- A page's bytes, in a row that stays as it is. -/
def PgV (κ : Nat → Nat) (w : World) (v : Value) (p : List UInt8) : Prop := ∃ g cap, v = .slice (some ⟨g, 0, none⟩) p.length cap ∧ p.length ≤ cap ∧ κ g = 0 ∧ g < w.heap.size ∧ w.rangeAt g 0 (byC p)
theorem PgV.to {S κ κ' w w' v p} (h : PgV κ w v p) (t : To S κ κ' w w') (hS : ¬ S 0) : PgV κ' w' v p := by
  obtain ⟨g, cap, h1, h2, h3, h4, h5⟩ := h
  have hn : ¬ S (κ g) := by rw [h3]; exact hS
  exact ⟨g, cap, h1, h2, (t.col g h4 hn).trans h3, Nat.lt_of_lt_of_le h4 t.size, rangeAt_to h5 t hn⟩
theorem PgV.recol {κ κ' w v p} (h : PgV κ w v p) (hk : ∀ b, b < w.heap.size → κ' b = κ b) : PgV κ' w v p := by
  obtain ⟨g, cap, h1, h2, h3, h4, h5⟩ := h
  exact ⟨g, cap, h1, h2, (hk g h4).trans h3, h4, h5⟩
def Nd.en (x : Nd) : Vm.En := ⟨x.key, x.val, x.dirty⟩
/-- The cache's struct a, its map m, its ring about r with the entries R. -/
structure CB (κ : Nat → Nat) (c : Nat) (w : World) (a n m r : Nat) (M : List (Nat × Value)) (R : List Nd) : Prop where
  col : κ a = c
  colm : κ m = c + 1
  colr : ∀ y ∈ rN r :: R, κ y.b = c + 2
  blk : w.heap[a]? = some (.cells #[.int .i64 (n : Int), .map (some m), .pointer (some ⟨r, 0, none⟩)] 151 (0, 0))
  map : MapB w m M
  perm : M.Perm (R.map fun x => (x.key, pB x.b))
  ring : RingAt w r R
  rows : ∀ x ∈ R, PgV κ w x.v x.val
  len : R.length ≤ n
  le : n ≤ 65536
def CacheAt (κ : Nat → Nat) (c : Nat) (w : World) (a n : Nat) (L : List Vm.En) : Prop := ∃ m r M R, CB κ c w a n m r M R ∧ R.map Nd.en = L
def Cc (c : Nat) : Nat → Prop := fun j => c ≤ j ∧ j < c + 3
theorem MapB.to {S κ κ' w w' m L} (h : MapB w m L) (t : To S κ κ' w w') (hS : ¬ S (κ m)) : MapB w' m L := by
  obtain ⟨es, clock, hb, H⟩ := h
  exact ⟨es, clock, (t.blk m (Array.getElem?_eq_some_iff.1 hb).1 hS).trans hb, H⟩
theorem MapB.lt {w m L} (h : MapB w m L) : m < w.heap.size := by
  obtain ⟨es, clock, hb, H⟩ := h
  exact (Array.getElem?_eq_some_iff.1 hb).1
theorem MapB.keys {w m L} (h : MapB w m L) : (L.map (·.1)).Nodup := by
  obtain ⟨es, clock, hb, H⟩ := h
  exact H.keys
theorem Ents.lt {w : World} {N nx pv} (h : Ents w N nx pv) {x : Nd} (hx : x ∈ N) : x.b < w.heap.size := (Array.getElem?_eq_some_iff.1 (h x hx)).1
theorem RingAt.to {S κ κ' w w' r R} (h : RingAt w r R) (t : To S κ κ' w w') (hS : ∀ y ∈ rN r :: R, ¬ S (κ y.b)) : RingAt w' r R := by
  obtain ⟨nx, pv, h⟩ := h
  exact ⟨nx, pv, fun x hx => (t.blk x.b (h.ents.lt hx) (hS x hx)).trans (h.ents x hx), h.chn, h.nd⟩
theorem RingAt.lt {w r R} (h : RingAt w r R) {x : Nd} (hx : x ∈ rN r :: R) : x.b < w.heap.size := by
  obtain ⟨nx, pv, h⟩ := h
  exact h.ents.lt hx
theorem CB.lt {κ c w a n m r M R} (h : CB κ c w a n m r M R) : a < w.heap.size := (Array.getElem?_eq_some_iff.1 h.blk).1
theorem CB.to {S κ κ' c w w' a n m r M R} (h : CB κ c w a n m r M R) (t : To S κ κ' w w') (hS : ∀ j, Cc c j → ¬ S j) (h0 : ¬ S 0) : CB κ' c w' a n m r M R := by
  have s0 : ¬ S (κ a) := by rw [h.col]; exact hS _ ⟨by omega, by omega⟩
  have s1 : ¬ S (κ m) := by rw [h.colm]; exact hS _ ⟨by omega, by omega⟩
  have s2 : ∀ y ∈ rN r :: R, ¬ S (κ y.b) := fun y hy => by rw [h.colr y hy]; exact hS _ ⟨by omega, by omega⟩
  exact ⟨(t.col a h.lt s0).trans h.col, (t.col m h.map.lt s1).trans h.colm, fun y hy => (t.col y.b (h.ring.lt hy) (s2 y hy)).trans (h.colr y hy), (t.blk a h.lt s0).trans h.blk, h.map.to t s1, h.perm, h.ring.to t s2, fun x hx => (h.rows x hx).to t h0, h.len, h.le⟩
theorem CacheAt.to {S κ κ' c w w' a n L} (h : CacheAt κ c w a n L) (t : To S κ κ' w w') (hS : ∀ j, Cc c j → ¬ S j) (h0 : ¬ S 0) : CacheAt κ' c w' a n L := by
  obtain ⟨m, r, M, R, h, hL⟩ := h
  exact ⟨m, r, M, R, h.to t hS h0, hL⟩
theorem CB.keys {κ c w a n m r M R} (h : CB κ c w a n m r M R) : (R.map (·.key)).Nodup := by
  have h1 := (h.perm.map (·.1)).nodup_iff.1 h.map.keys
  rw [List.map_map] at h1
  exact h1
theorem CB.klt {κ c w a n m r M R} (h : CB κ c w a n m r M R) {x : Nd} (hx : x ∈ R) : x.key < 4611686018427387904 := by
  obtain ⟨es, clock, hb, H⟩ := h.map
  exact H.lt (x.key, pB x.b) (h.perm.mem_iff.2 (List.mem_map.2 ⟨x, hx, rfl⟩))
theorem look_some {L : List (Nat × Value)} (hn : (L.map (·.1)).Nodup) {p : Nat × Value} (h : p ∈ L) : lookM p.1 L = some p.2 := by
  obtain ⟨j, hj⟩ := List.mem_iff_getElem?.1 h
  exact look_at hn hj
theorem CB.look1 {κ c w a n m r M R} (h : CB κ c w a n m r M R) {x : Nd} (hx : x ∈ R) : lookM x.key M = some (pB x.b) :=
  look_some (p := (x.key, pB x.b)) h.map.keys (h.perm.mem_iff.2 (List.mem_map.2 ⟨x, hx, rfl⟩))
theorem CB.look0 {κ c w a n m r M R} (h : CB κ c w a n m r M R) {k : Nat} (hk : ∀ x ∈ R, x.key ≠ k) : lookM k M = none :=
  look_none fun p hp => by
    obtain ⟨x, hx, rfl⟩ := List.mem_map.1 (h.perm.mem_iff.1 hp)
    exact hk x hx
theorem zv147 (w : World) : (zeroValue 147).run Tryz.prog w = .ok (.pointer none) w := by kernel_rfl
theorem ul146 : Tryz.prog.underlying 146 = some (.map 3 147) := by kernel_rfl
theorem ul3 : Tryz.prog.underlying 3 = some (.int .i64) := by kernel_rfl
theorem CB.find (κ c w a n m r M R) (h : CB κ c w a n m r M R) (k : Nat) (hk : k < 4611686018427387904) (v : Value) (hv : (lookM k M).getD (.pointer none) = v) :
    Calls Tryz.prog 113 #[.pointer (some ⟨a, 0, none⟩), .int .i64 (k : Int)] w fun e w' => e = .returned v ∧ w' = w := by
  have c1 : w.cell? ⟨a, 1, none⟩ = some (.map (some m)) := cell_at h.blk rfl
  have hl : (Instr.lookup 146 (.map (some m)) (.int .i64 (k : Int)) false).run Tryz.prog w = .ok v w := by
    rw [← hv]; exact run_mlook ul146 ul3 (zv147 w) h.map hk
  clear h
  go_enter Tryz.func113, Tryz.ntmps113
  go_wp2
  go_ret
  exact ⟨rfl, rfl⟩
theorem CB.find1 {κ c w a n m r M R} (h : CB κ c w a n m r M R) {x : Nd} (hx : x ∈ R) :
    Calls Tryz.prog 113 #[.pointer (some ⟨a, 0, none⟩), .int .i64 (x.key : Int)] w fun e w' => e = .returned (.pointer (some ⟨x.b, 0, none⟩)) ∧ w' = w :=
  CB.find _ _ _ _ _ _ _ _ _ h x.key (h.klt hx) _ (by rw [h.look1 hx]; rfl)
theorem CB.find0 {κ c w a n m r M R} (h : CB κ c w a n m r M R) {k : Nat} (hk : k < 4611686018427387904) (h0 : ∀ x ∈ R, x.key ≠ k) :
    Calls Tryz.prog 113 #[.pointer (some ⟨a, 0, none⟩), .int .i64 (k : Int)] w fun e w' => e = .returned (.pointer none) ∧ w' = w :=
  CB.find _ _ _ _ _ _ _ _ _ h k hk _ (by rw [h.look0 h0]; rfl)
theorem fnd_case (k : Nat) (R : List Nd) : (Vm.fnd k (R.map Nd.en) = none ∧ ∀ x ∈ R, x.key ≠ k) ∨ ∃ l1 x l2, R = l1 ++ x :: l2 ∧ x.key = k ∧ Vm.fnd k (R.map Nd.en) = some x.en := by
  cases h : Vm.fnd k (R.map Nd.en) with
  | none => exact .inl ⟨rfl, fun x hx => Vm.fnd_none h x.en (List.mem_map.2 ⟨x, hx, rfl⟩)⟩
  | some e =>
    obtain ⟨h1, h2⟩ := Vm.fnd_some h
    obtain ⟨x, hx, rfl⟩ := List.mem_map.1 h1
    obtain ⟨l1, l2, rfl⟩ := List.append_of_mem hx
    exact .inr ⟨l1, x, l2, rfl, h2, rfl⟩
theorem rem_split {l1 l2 : List Nd} {x : Nd} (hn : ((l1 ++ x :: l2).map (·.key)).Nodup) : Vm.rem x.key ((l1 ++ x :: l2).map Nd.en) = (l1 ++ l2).map Nd.en := by
  unfold Vm.rem
  rw [List.map_append, List.map_cons, List.eraseP_append_right, List.eraseP_cons_of_pos, List.map_append]
  · show (x.key == x.key) = true
    simp
  · intro e he
    obtain ⟨y, hy, rfl⟩ := List.mem_map.1 he
    rw [List.map_append, List.nodup_append] at hn
    have := hn.2.2 y.key (List.mem_map.2 ⟨y, hy, rfl⟩) x.key (by simp)
    show ¬ (y.key == x.key) = true
    simpa using this
theorem split_keys {l1 l2 : List Nd} {x : Nd} (hn : ((l1 ++ x :: l2).map (·.key)).Nodup) : ∀ y ∈ l1 ++ l2, y.key ≠ x.key := fun y hy => by
  rw [List.map_append, List.map_cons, List.nodup_append, List.nodup_cons] at hn
  rcases List.mem_append.1 hy with hy | hy
  · exact hn.2.2 _ (List.mem_map.2 ⟨y, hy, rfl⟩) _ List.mem_cons_self
  · exact fun e => hn.2.1.1 (e ▸ List.mem_map.2 ⟨y, hy, rfl⟩)
/-- Nothing is found. -/
theorem c_cget0 (κ : Nat → Nat) (c a n k : Nat) (L : List Vm.En) (w : World) (h : CacheAt κ c w a n L) (hk : k < 4611686018427387904) (hf : Vm.fnd k L = none) :
    Calls Tryz.prog 68 #[.pointer (some ⟨a, 0, none⟩), .int .i64 (k : Int)] w fun e w' => e = .returned (.tuple #[.slice none 0 0, .bool false]) ∧ w' = w := by
  obtain ⟨m, r, M, R, h, rfl⟩ := h
  have h0 : ∀ x ∈ R, x.key ≠ k := by
    rcases fnd_case k R with h | ⟨l1, x, l2, _, _, h⟩
    · exact h.2
    · rw [hf] at h; cases h
  have cF := h.find0 hk h0
  clear h h0 hf
  go_enter Tryz.func68, Tryz.ntmps68
  go_wp2_with (go_at_call 113; refine cF.mono ?_; rintro e w1 ⟨rfl, rfl⟩)
  go_ret2
  exact ⟨rfl, rfl⟩
/-- What was found is used. -/
theorem CB.use {κ c w a n m r M l1 l2} {x : Nd} (h : CB κ c w a n m r M (l1 ++ x :: l2)) :
    Calls Tryz.prog 114 #[.pointer (some ⟨a, 0, none⟩), .pointer (some ⟨x.b, 0, none⟩)] w fun e w' => e = .returned (.tuple #[]) ∧ CB κ c w' a n m r M (l1 ++ l2 ++ [x]) ∧ To (fun j => j = c + 2) κ κ w w' := by
  have hak : κ a ≠ c + 2 := by rw [h.col]; omega
  have hsub : ∀ y ∈ rN r :: (l1 ++ l2), y ∈ rN r :: (l1 ++ x :: l2) := fun y hy => by
    rcases List.mem_cons.1 hy with rfl | hy
    · exact List.mem_cons_self
    · refine List.mem_cons_of_mem _ ?_
      rcases List.mem_append.1 hy with hy | hy
      · exact List.mem_append_left _ hy
      · exact List.mem_append_right _ (List.mem_cons_of_mem _ hy)
  have hxn : x.b ∉ r :: (l1 ++ l2).map (·.b) := by
    obtain ⟨nx, pv, hR⟩ := h.ring
    have hn := hR.nd
    rw [List.map_append, List.map_cons, List.nodup_cons, List.nodup_append, List.nodup_cons] at hn
    rw [List.map_append, List.mem_cons, List.mem_append]
    rintro (e | e | e)
    · exact hn.1 (by rw [← e]; simp)
    · exact hn.2.2.2 _ e _ List.mem_cons_self rfl
    · exact hn.2.2.1.1 e
  refine (c_use κ (c + 2) a r (l1 ++ l2) x w (cell_at h.blk rfl) h.lt hak (c_outR κ (c + 2) r l1 l2 x w h.ring h.colr) hxn (fun y hy => h.colr y (hsub y hy)) (h.colr x (by simp))).mono ?_
  rintro e w' ⟨rfl, hR, hT⟩
  have hp : (l1 ++ l2 ++ [x]).Perm (l1 ++ x :: l2) := by
    rw [List.append_assoc]
    exact List.Perm.append_left l1 (List.perm_append_singleton x l2)
  refine ⟨rfl, ⟨h.col, h.colm, fun y hy => ?_, (hT.blk a h.lt hak).trans h.blk, h.map.to hT (by rw [h.colm]; omega), h.perm.trans (hp.symm.map _), hR, fun y hy => (h.rows y (hp.mem_iff.1 hy)).to hT (by omega), by rw [hp.length_eq]; exact h.len, h.le⟩, hT⟩
  rcases List.mem_cons.1 hy with rfl | hy
  · exact h.colr _ List.mem_cons_self
  · exact h.colr y (List.mem_cons_of_mem _ (hp.mem_iff.1 hy))
theorem c_cget1 (κ : Nat → Nat) (c a n k : Nat) (L : List Vm.En) (en : Vm.En) (w : World) (h : CacheAt κ c w a n L) (hf : Vm.fnd k L = some en) :
    Calls Tryz.prog 68 #[.pointer (some ⟨a, 0, none⟩), .int .i64 (k : Int)] w fun e w' => ∃ v, e = .returned (.tuple #[v, .bool true]) ∧ PgV κ w' v en.val ∧ CacheAt κ c w' a n (Vm.usd k L) ∧ To (Cc c) κ κ w w' := by
  obtain ⟨m, r, M, R, h, rfl⟩ := h
  rcases fnd_case k R with h0 | ⟨l1, x, l2, rfl, rfl, h1⟩
  · rw [hf] at h0; cases h0.1
  have hx : x ∈ l1 ++ x :: l2 := by simp
  have hn := h.keys
  have hu : Vm.usd x.key ((l1 ++ x :: l2).map Nd.en) = (l1 ++ l2 ++ [x]).map Nd.en := by
    unfold Vm.usd
    rw [h1]
    simp only
    rw [rem_split hn, List.map_append, List.map_append, List.map_append]; rfl
  have he : en = x.en := by rw [hf] at h1; exact Option.some.inj h1
  have cF := h.find1 hx
  have cU : Calls Tryz.prog 114 #[.pointer (some ⟨a, 0, none⟩), .pointer (some ⟨x.b, 0, none⟩)] w fun e w' => e = .returned (.tuple #[]) ∧ w'.cell? ⟨x.b, 1, none⟩ = some x.v ∧ Hid (CB κ c w' a n m r M (l1 ++ l2 ++ [x])) ∧ Hid (To (fun j => j = c + 2) κ κ w w') := h.use.mono (by
    rintro e w' ⟨rfl, hC, hT⟩
    obtain ⟨nx, pv, hR⟩ := hC.ring
    exact ⟨rfl, cell_at (hR.ents x (by simp)) rfl, Hid.mk hC, Hid.mk hT⟩)
  have hx' := Hid.mk hx
  have hu' := Hid.mk hu
  have he' := Hid.mk he
  clear h h1 hf hn hx hu he
  go_enter Tryz.func68, Tryz.ntmps68
  go_wp2_with (first | (go_at_call 113; refine cF.mono ?_; rintro e w1 ⟨rfl, rfl⟩) | (go_at_call 114; refine cU.mono ?_; rintro e w2 ⟨rfl, c1, hC, hT⟩))
  go_ret2
  refine ⟨_, rfl, ?_, ⟨m, r, M, _, hC.out, hu'.out.symm⟩, hT.out.mono fun j e => ⟨by omega, by omega⟩⟩
  rw [he'.out]
  exact hC.out.rows x (by simp)
end Go.Proofs.YtoacaikopcdkmaaGreat

namespace Go.Proofs.YtoacaikopcdkmaaGreat
open Go.RowKit Go.Sort Go.MapKept Go.Maps Go.WideElems Go.ChangeMaps
theorem del_split {l1 l2 : List Nd} {x : Nd} {M : List (Nat × Value)} (hn : ((l1 ++ x :: l2).map (·.key)).Nodup) (hp : M.Perm ((l1 ++ x :: l2).map fun x => (x.key, pB x.b))) : (delM x.key M).Perm ((l1 ++ l2).map fun x => (x.key, pB x.b)) := by
  have h := hp.filter (fun p => p.1 != x.key)
  have hk := split_keys hn
  have e : List.filter (fun p : Nat × Value => p.1 != x.key) ((l1 ++ x :: l2).map fun x => (x.key, pB x.b)) = (l1 ++ l2).map fun x => (x.key, pB x.b) := by
    rw [List.map_append, List.map_cons, List.filter_append, List.filter_cons_of_neg (by simp), ← List.filter_append, ← List.map_append, List.filter_eq_self]
    intro p hp
    obtain ⟨y, hy, rfl⟩ := List.mem_map.1 hp
    simpa using hk y hy
  rw [← e]; exact h
theorem sub_split {l1 l2 : List Nd} {x y r : Nd} (hy : y ∈ r :: (l1 ++ l2)) : y ∈ r :: (l1 ++ x :: l2) := by
  rcases List.mem_cons.1 hy with rfl | hy
  · exact List.mem_cons_self
  · refine List.mem_cons_of_mem _ ?_
    rcases List.mem_append.1 hy with hy | hy
    · exact List.mem_append_left _ hy
    · exact List.mem_append_right _ (List.mem_cons_of_mem _ hy)
/-- An entry goes. -/
theorem CB.drop {κ c w a n m r M l1 l2} {x : Nd} (h : CB κ c w a n m r M (l1 ++ x :: l2)) :
    Calls Tryz.prog 76 #[.pointer (some ⟨a, 0, none⟩), .int .i64 (x.key : Int)] w fun e w' => e = .returned (.bool true) ∧ CB κ c w' a n m r (delM x.key M) (l1 ++ l2) ∧ To (fun j => j = c + 1 ∨ j = c + 2) κ κ w w' := by
  have hx : x ∈ l1 ++ x :: l2 := by simp
  have cF := h.find1 hx
  have c3 : w.cell? ⟨x.b, 3, none⟩ = some (.int .i64 0) := by
    obtain ⟨nx, pv, hR⟩ := h.ring
    exact cell_at (hR.ents x (List.mem_cons_of_mem _ hx)) rfl
  have hak : κ a ≠ c + 2 := by rw [h.col]; omega
  have cO : Calls Tryz.prog 119 #[.pointer (some ⟨x.b, 0, none⟩)] w fun e w' => e = .returned (.tuple #[]) ∧ w'.cell? ⟨a, 1, none⟩ = some (.map (some m)) ∧ Hid (MapB w' m M) ∧ Hid (CB κ c w' a n m r M (l1 ++ x :: l2) → False ∨ True) ∧ Hid (RingAt w' r (l1 ++ l2)) ∧ Hid (To (fun j => j = c + 2) κ κ w w') := by
    refine (c_outR κ (c + 2) r l1 l2 x w h.ring h.colr).mono ?_
    rintro e w' ⟨rfl, hR, _, hT⟩
    exact ⟨rfl, cell_at ((hT.blk a h.lt hak).trans h.blk) rfl, Hid.mk (h.map.to hT (by rw [h.colm]; omega)), Hid.mk (fun _ => Or.inr trivial), Hid.mk hR, Hid.mk hT⟩
  have h' := Hid.mk h
  have hkl := h.klt hx
  clear h hak hx
  go_enter Tryz.func76, Tryz.ntmps76
  go_wp2_with (first | (go_at_call 113; refine cF.mono ?_; rintro e w1 ⟨rfl, rfl⟩) | (go_at_call 119; refine cO.mono ?_; rintro e w2 ⟨rfl, c1, hM, _, hR, hT⟩) | (at_delete; refine wpList_mdel _ rfl _ _ 146 3 rfl 147 ul146 ul3 m M rfl hM.out x.key hkl rfl ?_; intro ob hM2))
  go_ret
  have h := h'.out
  have t1 : To (fun j => j = c + 1) κ κ w2 (setBlock w2 m ob) := (To.refl _ κ w2).setB m ob (fun _ => h.colm)
  have t2 := (hT.out.mono (T := fun j => j = c + 1 ∨ j = c + 2) fun j e => .inr e).trans (t1.mono (T := fun j => j = c + 1 ∨ j = c + 2) fun j e => .inl e)
  refine ⟨rfl, ⟨h.col, h.colm, fun y hy => h.colr y (sub_split hy), (t2.blk a h.lt (by rw [h.col]; omega)).trans h.blk, hM2, del_split h.keys h.perm, hR.out.to t1 (fun y hy => by rw [h.colr y (sub_split hy)]; omega), fun y hy => (h.rows y ?_).to t2 (by omega), ?_, h.le⟩, t2⟩
  · rcases List.mem_append.1 hy with hy | hy
    · exact List.mem_append_left _ hy
    · exact List.mem_append_right _ (List.mem_cons_of_mem _ hy)
  · have := h.len
    rw [List.length_append, List.length_cons] at this
    rw [List.length_append]; omega
theorem c_cdrop (κ : Nat → Nat) (c a n k : Nat) (L : List Vm.En) (w : World) (h : CacheAt κ c w a n L) (hk : k < 4611686018427387904) :
    Calls Tryz.prog 76 #[.pointer (some ⟨a, 0, none⟩), .int .i64 (k : Int)] w fun e w' => (∃ b, e = .returned (.bool b)) ∧ CacheAt κ c w' a n (Vm.rem k L) ∧ To (Cc c) κ κ w w' := by
  obtain ⟨m, r, M, R, h, rfl⟩ := h
  rcases fnd_case k R with ⟨h1, h0⟩ | ⟨l1, x, l2, rfl, rfl, h1⟩
  · have cF := h.find0 hk h0
    have hr : Vm.rem k (R.map Nd.en) = R.map Nd.en := by
      unfold Vm.rem
      rw [List.eraseP_of_forall_not]
      intro e he
      have := Vm.fnd_none h1 e he
      simpa using this
    have h' := Hid.mk h
    have hr' := Hid.mk hr
    clear h h0 h1 hr
    go_enter Tryz.func76, Tryz.ntmps76
    go_wp2_with (go_at_call 113; refine cF.mono ?_; rintro e w1 ⟨rfl, rfl⟩)
    go_ret
    exact ⟨⟨_, rfl⟩, ⟨m, r, M, R, h'.out, hr'.out.symm⟩, .refl _ _ _⟩
  · refine h.drop.mono ?_
    rintro e w' ⟨rfl, hC, hT⟩
    exact ⟨⟨_, rfl⟩, ⟨m, r, _, _, hC, (rem_split h.keys).symm⟩, hT.mono fun j e => by unfold Cc; omega⟩
theorem RingAt.set {w w' : World} {r : Nat} {l1 l2 : List Nd} {x x' : Nd} (h : RingAt w r (l1 ++ x :: l2)) (hb : x'.b = x.b) (ho : ∀ b, b ≠ x.b → w'.heap[b]? = w.heap[b]?)
    (hx : ∀ p q, w.heap[x.b]? = some (.cells (eC x p q) 149 (0, 0)) → w'.heap[x.b]? = some (.cells (eC x' p q) 149 (0, 0))) : RingAt w' r (l1 ++ x' :: l2) := by
  obtain ⟨nx, pv, h⟩ := h
  have hn := h.nd
  have hxm : x ∈ rN r :: (l1 ++ x :: l2) := by simp
  have e : (l1 ++ x' :: l2).map (·.b) = (l1 ++ x :: l2).map (·.b) := by simp [hb]
  refine ⟨nx, pv, fun y hy => ?_, by rw [e]; exact h.chn, by rw [e]; exact hn⟩
  have old : ∀ y ∈ rN r :: (l1 ++ l2), w'.heap[y.b]? = some (.cells (eC y (pv y.b) (nx y.b)) 149 (0, 0)) := fun y hy => by
    rw [ho]
    · exact h.ents y (sub_split hy)
    · intro e
      rw [List.map_append, List.map_cons, List.nodup_cons, List.nodup_append, List.nodup_cons] at hn
      rcases List.mem_cons.1 hy with rfl | hy
      · have e' : r = x.b := e
        exact hn.1 (by rw [e']; simp)
      · rcases List.mem_append.1 hy with hy | hy
        · exact hn.2.2.2 _ (List.mem_map.2 ⟨y, hy, rfl⟩) _ List.mem_cons_self e
        · exact hn.2.2.1.1 (by rw [← e]; exact List.mem_map.2 ⟨y, hy, rfl⟩)
  have hcase : y = x' ∨ y ∈ rN r :: (l1 ++ l2) := by
    rcases List.mem_cons.1 hy with rfl | hy
    · exact .inr List.mem_cons_self
    · rcases List.mem_append.1 hy with hy | hy
      · exact .inr (List.mem_cons_of_mem _ (List.mem_append_left _ hy))
      · rcases List.mem_cons.1 hy with rfl | hy
        · exact .inl rfl
        · exact .inr (List.mem_cons_of_mem _ (List.mem_append_right _ hy))
  rcases hcase with rfl | hy
  · rw [hb]; exact hx _ _ (h.ents x hxm)
  · exact old y hy
/-- What an entry holds is changed. -/
theorem CB.set {κ c w w' a n m r M l1 l2} {x x' : Nd} (h : CB κ c w a n m r M (l1 ++ x :: l2)) (hb : x'.b = x.b) (hk : x'.key = x.key) (t : To (fun j => j = c + 2) κ κ w w') (hv : PgV κ w' x'.v x'.val) (ho : ∀ b, b ≠ x.b → w'.heap[b]? = w.heap[b]?)
    (hx : ∀ p q, w.heap[x.b]? = some (.cells (eC x p q) 149 (0, 0)) → w'.heap[x.b]? = some (.cells (eC x' p q) 149 (0, 0))) : CB κ c w' a n m r M (l1 ++ x' :: l2) := by
  have e : (l1 ++ x' :: l2).map (fun x => (x.key, pB x.b)) = (l1 ++ x :: l2).map fun x => (x.key, pB x.b) := by simp [hb, hk]
  have hcase : ∀ y ∈ l1 ++ x' :: l2, y = x' ∨ y ∈ l1 ++ x :: l2 := fun y hy => by
    rcases List.mem_append.1 hy with hy | hy
    · exact .inr (List.mem_append_left _ hy)
    · rcases List.mem_cons.1 hy with rfl | hy
      · exact .inl rfl
      · exact .inr (List.mem_append_right _ (List.mem_cons_of_mem _ hy))
  refine ⟨h.col, h.colm, fun y hy => ?_, (t.blk a h.lt (by rw [h.col]; omega)).trans h.blk, h.map.to t (by rw [h.colm]; omega), by rw [e]; exact h.perm, h.ring.set hb ho hx, fun y hy => ?_, ?_, h.le⟩
  · rcases List.mem_cons.1 hy with rfl | hy
    · exact h.colr _ List.mem_cons_self
    · rcases hcase y hy with rfl | hy
      · rw [hb]; exact h.colr x (by simp)
      · exact h.colr y (List.mem_cons_of_mem _ hy)
  · rcases hcase y hy with rfl | hy
    · exact hv
    · exact (h.rows y hy).to t (by omega)
  · have := h.len
    simpa using this
theorem clean_split {l1 l2 : List Nd} {x : Nd} (hn : ((l1 ++ x :: l2).map (·.key)).Nodup) : Vm.cleanL x.key ((l1 ++ x :: l2).map Nd.en) = (l1 ++ { x with dirty := false } :: l2).map Nd.en := by
  have hk := split_keys hn
  unfold Vm.cleanL
  rw [List.map_map, List.map_append, List.map_append, List.map_cons, List.map_cons]
  have e : ∀ l : List Nd, (∀ y ∈ l, y.key ≠ x.key) → l.map ((fun e : Vm.En => if e.key = x.key then { e with dirty := false } else e) ∘ Nd.en) = l.map Nd.en := fun l hl => List.map_congr_left fun y hy => if_neg (hl y hy)
  rw [e l1 fun y hy => hk y (List.mem_append_left _ hy), e l2 fun y hy => hk y (List.mem_append_right _ hy)]
  congr 2
  exact if_pos rfl
theorem clean_same {k : Nat} {L : List Vm.En} (h : ∀ e ∈ L, e.key = k → e.dirty = false) : Vm.cleanL k L = L := by
  unfold Vm.cleanL
  have : ∀ e ∈ L, (if e.key = k then { e with dirty := false } else e) = e := fun e he => by
    split
    · rename_i hk
      have := h e he hk
      cases e; simp only at this ⊢; rw [this]
    · rfl
  rw [List.map_congr_left this, List.map_id']
theorem c_cclean (κ : Nat → Nat) (c a n k : Nat) (L : List Vm.En) (w : World) (h : CacheAt κ c w a n L) (hk : k < 4611686018427387904) :
    Calls Tryz.prog 74 #[.pointer (some ⟨a, 0, none⟩), .int .i64 (k : Int)] w fun e w' => (∃ b, e = .returned (.bool b)) ∧ CacheAt κ c w' a n (Vm.cleanL k L) ∧ To (Cc c) κ κ w w' := by
  obtain ⟨m, r, M, R, h, rfl⟩ := h
  rcases fnd_case k R with ⟨h1, h0⟩ | ⟨l1, x, l2, rfl, rfl, h1⟩
  · have cF := h.find0 hk h0
    have hr : Vm.cleanL k (R.map Nd.en) = R.map Nd.en := clean_same fun e he ek => absurd ek (Vm.fnd_none h1 e he)
    have h' := Hid.mk h
    have hr' := Hid.mk hr
    clear h h0 h1 hr
    go_enter Tryz.func74, Tryz.ntmps74
    go_wp2_with (go_at_call 113; refine cF.mono ?_; rintro e w1 ⟨rfl, rfl⟩)
    go_ret
    exact ⟨⟨_, rfl⟩, ⟨m, r, M, R, h'.out, hr'.out.symm⟩, .refl _ _ _⟩
  · have hx : x ∈ l1 ++ x :: l2 := by simp
    have cF := h.find1 hx
    have c2 : w.cell? ⟨x.b, 2, none⟩ = some (.bool x.dirty) := by
      obtain ⟨nx, pv, hR⟩ := h.ring
      exact cell_at (hR.ents x (List.mem_cons_of_mem _ hx)) rfl
    have f2 : w.frozen? ⟨x.b, 2, none⟩ = false := by
      obtain ⟨nx, pv, hR⟩ := h.ring
      exact frozen_at (hR.ents x (List.mem_cons_of_mem _ hx))
    have h' := Hid.mk h
    clear h h1 hx
    cases hd : x.dirty with
    | false =>
      rw [hd] at c2
      have hd' := Hid.mk hd
      clear hd
      go_enter Tryz.func74, Tryz.ntmps74
      go_wp2_with (go_at_call 113; refine cF.mono ?_; rintro e w1 ⟨rfl, rfl⟩)
      go_ret
      refine ⟨⟨_, rfl⟩, ⟨m, r, M, _, h'.out, (clean_same fun e he ek => ?_).symm⟩, .refl _ _ _⟩
      obtain ⟨y, hy, rfl⟩ := List.mem_map.1 he
      by_cases hyx : y ∈ l1 ++ l2
      · exact absurd ek (split_keys h'.out.keys y hyx)
      · have : y = x := by
          rcases List.mem_append.1 hy with hy | hy
          · exact absurd (List.mem_append_left _ hy) hyx
          · rcases List.mem_cons.1 hy with e | hy
            · exact e
            · exact absurd (List.mem_append_right _ hy) hyx
        rw [this]; exact hd'.out
    | true =>
      rw [hd] at c2
      have hd' := Hid.mk hd
      clear hd
      go_enter Tryz.func74, Tryz.ntmps74
      go_wp2_with (go_at_call 113; refine cF.mono ?_; rintro e w1 ⟨rfl, rfl⟩)
      go_ret
      have h := h'.out
      have t1 : To (fun j => j = c + 2) κ κ w1 (w1.setCell ⟨x.b, 2, none⟩ (.bool false)) := (To.refl _ κ w1).setCell _ (fun _ => h.colr x (by simp))
      refine ⟨⟨_, rfl⟩, ⟨m, r, M, _, h.set (x' := { x with dirty := false }) rfl rfl t1 ((h.rows x (by simp)).to t1 (by omega)) (fun b hb => Below.heap_setCell _ _ _ _ hb) (fun p q e => ?_), (clean_split h.keys).symm⟩, t1.mono fun j e => by unfold Cc; omega⟩
      exact heap_setCell_at (i := 2) _ e
end Go.Proofs.YtoacaikopcdkmaaGreat
