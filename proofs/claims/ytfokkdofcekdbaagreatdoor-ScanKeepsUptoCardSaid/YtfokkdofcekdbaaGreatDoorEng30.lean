/- Statements whose order is open at more than one place. No condition. -/
import Derived.Test.YtfokkdofcekdbaaGreatDoorEng29
set_option linter.unusedSimpArgs false
set_option linter.unusedVariables false
namespace Go.Proofs.YtfokkdofcekdbaaGreatDoor
def segOk (P : Program) (md : Nat → Nat) (ops : Array Oper) : List Nat → Array Bool → Bool
 | [], _ => true
 | i :: is, listed => (Region.ready .any ops listed).contains i && (Region.ready .any ops listed == [i] || (freeC P N0 md ops listed i || freeT P N0 md ops listed i)) && segOk P md ops is (listed.setIfInBounds i true)
def listedAll : List Nat → Array Bool → Array Bool
 | [], L => L
 | i :: is, L => listedAll is (L.setIfInBounds i true)
section
variable {P : Program} {md : Nat → Nat} {l : List Oper} {n m : Nat} {k : St → Prop} {listed : Array Bool} {s : St}
end
def fmin (a b : Nat) : Option Nat := match FloatKind.f64.format.order a b with
 | some .lt => some a
 | some .gt => some b
 | some .eq => some (if (FloatKind.f64.decode a).neg then a else b)
 | none => none
def fmax (a b : Nat) : Option Nat := match FloatKind.f64.format.order a b with
 | some .lt => some b
 | some .gt => some a
 | some .eq => some (if (FloatKind.f64.decode a).neg then b else a)
 | none => none
section
variable {P : Program} {md : Nat → Nat} {w : Bool} {ops : Array Oper} {os : List Oper} {k : St → Prop} {n : Nat} {l : List (Nat × D)} {h : Heap} {d : Nat} {t ty : TypeId} {pos : String} {af : Array Edge} {x y z : Operand}
variable {β : Type} {G : β → Prop}
end
section
variable {P : Program} {md : Nat → Nat} {ops : Array Oper} {os : List Oper} {k : St → Prop} {n : Nat} {l : List (Nat × D)} {h : Heap} {O : List (Nat × AObj)}
theorem recell_at {K : Kn} {cs cs' : List D} {off : Nat} {old new : D} (hc : cs.getD off .any = old) (hC : cs.set off new = cs') (hV : ∀ v, VR K v old → VR K v new) (j : Nat) (v : Value) (hv : VR K v (cs.getD j .any)) : VR K v (cs'.getD j .any) := by
 rw [← hC, getD_set]
 split
 ·rename_i he
  rw [← he.1, hc] at hv
  exact hV v hv
 ·exact hv
theorem Cn_frzF {X : St → Prop} {i id : Nat} {cs cs' rs : List D} {old new : D} (j jj off : Nat) (ok : OK h O) (hO : O[j]? = some (i, .cells cs)) (hi : i ≠ 0) (hR : O[jj]? = some (id, .cells rs)) (hid : id ≠ 0) (hjj : j ≠ jj) (hc : cs.getD off .any = old)
  (hV : ∀ (K : Kn) (w : World) (v : Value), HR K (Hp h O) w → VR (K.frz w id rs.length) v old → VR (K.frz w id rs.length) v new) (hC : cs.set off new = cs')
  (hk : OK h ((O.set jj (0, .room)).set j (i, .cells cs')) → X ⟨mkSl n l, Hp h ((O.set jj (0, .room)).set j (i, .cells cs'))⟩) : Cn true ⟨mkSl n l, Hp h O⟩ X := fun K a u S => by
 have hx := Hp_get jj ok hR hid
 obtain ⟨E, H'⟩ := S.h.frz hx
 obtain ⟨e1, e2⟩ := Hp_rel jj ok hR hid
 have hO2 : (O.set jj (0, .room))[j]? = some (i, .cells cs) := by rw [List.getElem?_set_ne (Ne.symm hjj)]; exact hO
 obtain ⟨e3, e4⟩ := Hp_set (y := .cells cs') j e2 hO2 hi
 simp only [e1] at H'
 have H2 := H'.recell (i := i) (cs := cs) (cs' := cs') (Hp_get j e2 hO2 hi) (by rw [← hC]; simp) (fun q v hv => recell_at hc hC (fun v hv => hV K u v S.h hv) q v hv)
 rw [e3] at H2
 exact ⟨K.frz u id rs.length, ⟨mkSl n l, Hp h ((O.set jj (0, .room)).set j (i, .cells cs'))⟩, E, ⟨H2, S.d, S.n, fun i => (S.v i).mono E⟩, hk e4⟩
theorem Cn_cell {X : St → Prop} {i : Nat} {cs cs' : List D} {old new : D} (j off : Nat) (ok : OK h O) (hO : O[j]? = some (i, .cells cs)) (hi : i ≠ 0) (hc : cs.getD off .any = old) (hV : ∀ (K : Kn) (v : Value), VR K v old → VR K v new) (hC : cs.set off new = cs')
  (hk : OK h (O.set j (i, .cells cs')) → X ⟨mkSl n l, Hp h (O.set j (i, .cells cs'))⟩) : Cn true ⟨mkSl n l, Hp h O⟩ X := fun K a u S => by
 obtain ⟨e3, e4⟩ := Hp_set (y := .cells cs') j ok hO hi
 have H2 := S.h.recell (i := i) (cs := cs) (cs' := cs') (Hp_get j ok hO hi) (by rw [← hC]; simp) (fun q v hv => recell_at hc hC (fun v hv => hV K v hv) q v hv)
 simp only [e3] at H2
 exact ⟨K, ⟨mkSl n l, Hp h (O.set j (i, .cells cs'))⟩, Ext.refl K, ⟨H2, S.d, S.n, S.v⟩, hk e4⟩
theorem S_frzF {α : Type} {c : α → List D} {q id i : Nat} {e : List α} {cs cs' : List D} (j jj off : Nat) (ok : OK h O) (hz : id = 0 → e = []) (hO : O[j]? = some (i, .cells cs)) (hi : i ≠ 0) (hR : O[jj]? = some (mo id c e)) (hjj : j ≠ jj) (hq : ∀ a, (c a).length = q)
  (hc : cs.getD off .any = mslO q id e) (hC : cs.set off (.sl q (e.map c) 0) = cs')
  (hk : OK h ((O.set jj (0, .room)).set j (i, .cells cs')) → seqQ P md true ops os ⟨mkSl n l, Hp h ((O.set jj (0, .room)).set j (i, .cells cs'))⟩ k) : seqQ P md true ops os ⟨mkSl n l, Hp h O⟩ k := by
 cases id with
 | zero =>
  have e1 := hz rfl
  subst e1
  have hset : O.set jj (0, .room) = O := by
   obtain ⟨hlt, he⟩ := List.getElem?_eq_some_iff.1 hR
   have he' : O[jj] = (0, .room) := he
   apply List.ext_getElem?
   intro m
   rw [List.getElem?_set]
   split
   ·rename_i hm
    subst hm
    rw [List.getElem?_eq_getElem hlt, he']
   ·rfl
  rw [hset] at hk
  refine S_cn (Cn_cell j off ok hO hi hc (fun K v hv => ?_) hC hk)
  have hv' : VR K v .snil := hv
  cases hv'
  exact .slz q none
 | succ m =>
  refine S_cn (Cn_frzF (rs := fl c e) j jj off ok hO hi hR (Nat.succ_ne_zero m) hjj hc (fun K w v H hv => ?_) hC hk)
  have hv' : VR (K.frz w (m + 1) (fl c e).length) v (.msl q (m + 1) 0 e.length) := hv
  have hget := Hp_get jj ok hR (Nat.succ_ne_zero m)
  generalize hlen : e.length = N at hv'
  cases hv' with
  | msl _ _ _ _ cap hid hn hcap =>
   have := VR.frzS H (es := e.map c) hget (by simp; exact fun a _ => hq a) (v := .slice (some ⟨K.io (m + 1), 0, none⟩) N cap) (by
    rw [List.length_map, hlen]
    exact VR.msl q (m + 1) 0 N cap hid hn hcap)
   exact this
end
end Go.Proofs.YtfokkdofcekdbaaGreatDoor
