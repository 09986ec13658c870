/- Statements whose order is open at more than one place. No condition. -/
import Derived.Test.YtilhbalhkljanaaGreatDoorEng29
set_option linter.unusedSimpArgs false
set_option linter.unusedVariables false
namespace Go.Proofs.YtilhbalhkljanaaGreatDoor
def Vj (P : Program) (md : Nat → Nat) (ops : Array Oper) : List Nat → Array Bool → Bool
 | [], _ => true
 | i :: is, listed => (Region.ready .any ops listed).contains i && (Region.ready .any ops listed == [i] || (R6 P N0 md ops listed i || RG P N0 md ops listed i)) && Vj P md ops is (listed.setIfInBounds i true)
def Mj : List Nat → Array Bool → Array Bool
 | [], L => L
 | i :: is, L => Mj is (L.setIfInBounds i true)
theorem KF {P : Program} {md : Nat → Nat} {ops : Array Oper} {m : Nat} {k : St → Prop} : ∀ (l : List Nat) (listed : Array Bool) {s : St}, Vj P md ops l listed = true →
  Gr P N0 md ops l s (fun s' => HX P N0 md ops k m (Mj l listed) s') → HX P N0 md ops k (l.length + m) listed s
 | [], listed, s, ho, h => by
  show HX P N0 md ops k (0 + m) listed s
  rw [Nat.zero_add]; exact h
 | i :: is, listed, s, ho, h => by
  simp only [Vj, Bool.and_eq_true, Bool.or_eq_true, beq_iff_eq] at ho
  obtain ⟨⟨hr, hf⟩, hrest⟩ := ho
  have hr' : i ∈ Region.ready .any ops listed := by simpa using hr
  obtain ⟨_, oi, hoi, _⟩ := mem_ready.1 hr'
  simp only [Gr, hoi] at h
  have e : (i :: is).length + m = (is.length + m) + 1 := by simp only [List.length_cons]; omega
  rw [e]
  rcases hf with hone | hfree | hdeep
  ·refine ⟨fun h0 => (by rw [h0] at hr'; cases hr'), fun j hj => ?_⟩
   rw [hone] at hj
   have : j = i := by simpa using hj
   subst this
   simp only [hoi]
   exact Dt h fun s' h' => KF is _ hrest h'
  ·obtain ⟨hci, hfr⟩ := Lj hoi hfree
   obtain ⟨d, hv, hk⟩ := (EQ hci).1 h
   exact Lo hoi hci _ listed s hfr hr' hv (KF is _ hrest hk)
  ·obtain ⟨hci, hdep, hlist, hfr⟩ := La hoi hdeep
   obtain ⟨d, hv, hk⟩ := (EQ hci).1 h
   exact Kf hoi hci _ hdep _ listed s hlist hfr hr' hv (KF is _ hrest hk)
section
variable {P : Program} {md : Nat → Nat} {l : List Oper} {n m : Nat} {k : St → Prop} {listed : Array Bool} {s : St}
theorem N3 (pl : List Nat) (l2 : List Oper) (m : Nat) (listed' : Array Bool) (hn : pl.length + m = n) (h2 : pl.map (fun i => l[i]?) = l2.map some) (ho : Vj P md l.toArray pl listed = true) (hl : Mj pl listed = listed')
  (h : Av P md false l.toArray l2 s fun s' => HX P N0 md l.toArray k m listed' s') : HX P N0 md l.toArray k n listed s := by
 subst hl; subst hn
 exact KF pl listed ho (Hd pl l2 (by simpa using h2) (FO h))
theorem U0 (he : (Region.ready .any l.toArray listed).isEmpty = true) (h : k s) : HX P N0 md l.toArray k 0 listed s := ⟨by simpa using he, h⟩
theorem b7 {i : Nat} {o : Oper} {L : Array Bool} (hi : l[i]? = some o) (hL : listed.setIfInBounds i true = L) (h : Av P md false l.toArray [o] s fun s' => HX P N0 md l.toArray k n L s') :
  ∀ r : Option Oper, l.toArray[i]? = r → (match r with | some o => Fv P N0 md l.toArray o s fun s' => HX P N0 md l.toArray k n (listed.setIfInBounds i true) s' | none => HX P N0 md l.toArray k n (listed.setIfInBounds i true) s) := by
 intro r hr
 have : r = some o := by rw [← hr]; simpa using hi
 subst this
 subst hL
 exact FO h
theorem YN (a b : Nat) (oa ob : Oper) (la lb : Array Bool) (hr : (Region.ready .any l.toArray listed == [a, b]) = true) (ha : l[a]? = some oa) (hb : l[b]? = some ob) (hla : listed.setIfInBounds a true = la) (hlb : listed.setIfInBounds b true = lb)
  (h1 : Av P md false l.toArray [oa] s fun s' => HX P N0 md l.toArray k n la s') (h2 : Av P md false l.toArray [ob] s fun s' => HX P N0 md l.toArray k n lb s') : HX P N0 md l.toArray k (n + 1) listed s := by
 have hr' := beq_iff_eq.1 hr
 refine ⟨fun h0 => (by rw [h0] at hr'; cases hr'), fun i hi => ?_⟩
 rw [hr'] at hi
 have : i = a ∨ i = b := by simpa using hi
 rcases this with rfl | rfl
 ·exact b7 ha hla h1 _ rfl
 ·exact b7 hb hlb h2 _ rfl
end
def iK (a b : Nat) : Option Nat := match FloatKind.f64.format.order a b with
 | some .lt => some a
 | some .gt => some b
 | some .eq => some (if (FloatKind.f64.decode a).neg then a else b)
 | none => none
def iD (a b : Nat) : Option Nat := match FloatKind.f64.format.order a b with
 | some .lt => some b
 | some .gt => some a
 | some .eq => some (if (FloatKind.f64.decode a).neg then b else a)
 | none => none
section
variable {P : Program} {md : Nat → Nat} {w : Bool} {ops : Array Oper} {os : List Oper} {k : St → Prop} {n : Nat} {l : List (Nat × D)} {h : Heap} {d : Nat} {t ty : TypeId} {pos : String} {af : Array Edge} {x y z : Operand}
variable {β : Type} {G : β → Prop}
end
section
variable {P : Program} {md : Nat → Nat} {ops : Array Oper} {os : List Oper} {k : St → Prop} {n : Nat} {l : List (Nat × D)} {h : Heap} {O : List (Nat × AObj)}
theorem PG {K : Kn} {cs cs' : List D} {off : Nat} {old new : D} (hc : cs.getD off .any = old) (hC : cs.set off new = cs') (hV : ∀ v, VR K v old → VR K v new) (j : Nat) (v : Value) (hv : VR K v (cs.getD j .any)) : VR K v (cs'.getD j .any) := by
 rw [← hC, Yo]
 split
 ·rename_i he
  rw [← he.1, hc] at hv
  exact hV v hv
 ·exact hv
theorem aU {X : St → Prop} {i id : Nat} {cs cs' rs : List D} {old new : D} (j jj off : Nat) (ok : OK h O) (hO : O[j]? = some (i, .cells cs)) (hi : i ≠ 0) (hR : O[jj]? = some (id, .cells rs)) (hid : id ≠ 0) (hjj : j ≠ jj) (hc : cs.getD off .any = old)
  (hV : ∀ (K : Kn) (w : World) (v : Value), HR K (Hp h O) w → VR (K.frz w id rs.length) v old → VR (K.frz w id rs.length) v new) (hC : cs.set off new = cs')
  (hk : OK h ((O.set jj (0, .room)).set j (i, .cells cs')) → X ⟨Al n l, Hp h ((O.set jj (0, .room)).set j (i, .cells cs'))⟩) : Cn true ⟨Al n l, Hp h O⟩ X := fun K a u S => by
 have hx := Eb jj ok hR hid
 obtain ⟨E, H'⟩ := S.h.frz hx
 obtain ⟨e1, e2⟩ := Ld jj ok hR hid
 have hO2 : (O.set jj (0, .room))[j]? = some (i, .cells cs) := by rw [List.getElem?_set_ne (Ne.symm hjj)]; exact hO
 obtain ⟨e3, e4⟩ := Kb (y := .cells cs') j e2 hO2 hi
 simp only [e1] at H'
 have H2 := H'.recell (i := i) (cs := cs) (cs' := cs') (Eb j e2 hO2 hi) (by rw [← hC]; simp) (fun q v hv => PG hc hC (fun v hv => hV K u v S.h hv) q v hv)
 rw [e3] at H2
 exact ⟨K.frz u id rs.length, ⟨Al n l, Hp h ((O.set jj (0, .room)).set j (i, .cells cs'))⟩, E, ⟨H2, S.d, S.n, fun i => (S.v i).mono E⟩, hk e4⟩
theorem al {X : St → Prop} {i : Nat} {cs cs' : List D} {old new : D} (j off : Nat) (ok : OK h O) (hO : O[j]? = some (i, .cells cs)) (hi : i ≠ 0) (hc : cs.getD off .any = old) (hV : ∀ (K : Kn) (v : Value), VR K v old → VR K v new) (hC : cs.set off new = cs')
  (hk : OK h (O.set j (i, .cells cs')) → X ⟨Al n l, Hp h (O.set j (i, .cells cs'))⟩) : Cn true ⟨Al n l, Hp h O⟩ X := fun K a u S => by
 obtain ⟨e3, e4⟩ := Kb (y := .cells cs') j ok hO hi
 have H2 := S.h.recell (i := i) (cs := cs) (cs' := cs') (Eb j ok hO hi) (by rw [← hC]; simp) (fun q v hv => PG hc hC (fun v hv => hV K v hv) q v hv)
 simp only [e3] at H2
 exact ⟨K, ⟨Al n l, Hp h (O.set j (i, .cells cs'))⟩, Ext.refl K, ⟨H2, S.d, S.n, S.v⟩, hk e4⟩
theorem de {α : Type} {c : α → List D} {q id i : Nat} {e : List α} {cs cs' : List D} (j jj off : Nat) (ok : OK h O) (hz : id = 0 → e = []) (hO : O[j]? = some (i, .cells cs)) (hi : i ≠ 0) (hR : O[jj]? = some (mo id c e)) (hjj : j ≠ jj) (hq : ∀ a, (c a).length = q)
  (hc : cs.getD off .any = Aq q id e) (hC : cs.set off (.sl q (e.map c) 0) = cs')
  (hk : OK h ((O.set jj (0, .room)).set j (i, .cells cs')) → Av P md true ops os ⟨Al n l, Hp h ((O.set jj (0, .room)).set j (i, .cells cs'))⟩ k) : Av P md true ops os ⟨Al n l, Hp h O⟩ k := by
 cases id with
 | zero =>
  have e1 := hz rfl
  subst e1
  have hset : O.set jj (0, .room) = O := by
   obtain ⟨hlt, he⟩ := List.getElem?_eq_some_iff.1 hR
   have he' : O[jj] = (0, .room) := he
   apply List.ext_getElem?
   intro m
   rw [List.getElem?_set]
   split
   ·rename_i hm
    subst hm
    rw [List.getElem?_eq_getElem hlt, he']
   ·rfl
  rw [hset] at hk
  refine SU (al j off ok hO hi hc (fun K v hv => ?_) hC hk)
  have hv' : VR K v .snil := hv
  cases hv'
  exact .slz q none
 | succ m =>
  refine SU (aU (rs := fl c e) j jj off ok hO hi hR (Nat.succ_ne_zero m) hjj hc (fun K w v H hv => ?_) hC hk)
  have hv' : VR (K.frz w (m + 1) (fl c e).length) v (.msl q (m + 1) 0 e.length) := hv
  have hget := Eb jj ok hR (Nat.succ_ne_zero m)
  generalize hlen : e.length = N at hv'
  cases hv' with
  | msl _ _ _ _ cap hid hn hcap =>
   have := VR.frzS H (es := e.map c) hget (by simp; exact fun a _ => hq a) (v := .slice (some ⟨K.io (m + 1), 0, none⟩) N cap) (by
    rw [List.length_map, hlen]
    exact VR.msl q (m + 1) 0 N cap hid hn hcap)
   exact this
end
end Go.Proofs.YtilhbalhkljanaaGreatDoor
