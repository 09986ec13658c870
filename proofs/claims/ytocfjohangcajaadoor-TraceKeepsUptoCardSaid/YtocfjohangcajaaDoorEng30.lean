/- Statements whose order is open at more than one place. No condition. -/
import Derived.Test.YtocfjohangcajaaDoorEng29
set_option linter.unusedSimpArgs false
set_option linter.unusedVariables false
namespace Go.Proofs.YtocfjohangcajaaDoor

def segOk (P : Program) (md : Nat → Nat) (ops : Array Oper) : List Nat → Array Bool → Bool
  | [], _ => true
  | i :: is, listed => (Region.ready .any ops listed).contains i && (Region.ready .any ops listed == [i] || (freeC P N0 md ops listed i || freeT P N0 md ops listed i)) && segOk P md ops is (listed.setIfInBounds i true)
def listedAll : List Nat → Array Bool → Array Bool
  | [], L => L
  | i :: is, L => listedAll is (L.setIfInBounds i true)
theorem segOk_any {P : Program} {md : Nat → Nat} {ops : Array Oper} {m : Nat} {k : St → Prop} : ∀ (l : List Nat) (listed : Array Bool) {s : St}, segOk P md ops l listed = true →
    planD P N0 md ops l s (fun s' => anyD P N0 md ops k m (listedAll l listed) s') → anyD P N0 md ops k (l.length + m) listed s
  | [], listed, s, ho, h => by
    show anyD P N0 md ops k (0 + m) listed s
    rw [Nat.zero_add]; exact h
  | i :: is, listed, s, ho, h => by
    simp only [segOk, Bool.and_eq_true, Bool.or_eq_true, beq_iff_eq] at ho
    obtain ⟨⟨hr, hf⟩, hrest⟩ := ho
    have hr' : i ∈ Region.ready .any ops listed := by simpa using hr
    obtain ⟨_, oi, hoi, _⟩ := mem_ready.1 hr'
    simp only [planD, hoi] at h
    have e : (i :: is).length + m = (is.length + m) + 1 := by simp only [List.length_cons]; omega
    rw [e]
    rcases hf with hone | hfree | hdeep
    · refine ⟨fun h0 => (by rw [h0] at hr'; cases hr'), fun j hj => ?_⟩
      rw [hone] at hj
      have : j = i := by simpa using hj
      subst this
      simp only [hoi]
      exact stepG_mono h fun s' h' => segOk_any is _ hrest h'
    · obtain ⟨hci, hfr⟩ := freeC_spec hoi hfree
      obtain ⟨d, hv, hk⟩ := (stepG_fun hci).1 h
      exact anyD_first hoi hci _ listed s hfr hr' hv (segOk_any is _ hrest hk)
    · obtain ⟨hci, hdep, hlist, hfr⟩ := freeT_spec hoi hdeep
      obtain ⟨d, hv, hk⟩ := (stepG_fun hci).1 h
      exact anyD_firstT hoi hci _ hdep _ listed s hlist hfr hr' hv (segOk_any is _ hrest hk)

section
variable {P : Program} {md : Nat → Nat} {l : List Oper} {n m : Nat} {k : St → Prop} {listed : Array Bool} {s : St}
/-- Operations in a row. -/
theorem A_seq (pl : List Nat) (l2 : List Oper) (m : Nat) (listed' : Array Bool) (hn : pl.length + m = n) (h2 : pl.map (fun i => l[i]?) = l2.map some) (ho : segOk P md l.toArray pl listed = true) (hl : listedAll pl listed = listed')
    (h : seqQ P md false l.toArray l2 s fun s' => anyD P N0 md l.toArray k m listed' s') : anyD P N0 md l.toArray k n listed s := by
  subst hl; subst hn
  exact segOk_any pl listed ho (seqD_planL pl l2 (by simpa using h2) (seqQ_false h))
theorem A_end (he : (Region.ready .any l.toArray listed).isEmpty = true) (h : k s) : anyD P N0 md l.toArray k 0 listed s := ⟨by simpa using he, h⟩
theorem A_one {i : Nat} {o : Oper} {L : Array Bool} (hi : l[i]? = some o) (hL : listed.setIfInBounds i true = L) (h : seqQ P md false l.toArray [o] s fun s' => anyD P N0 md l.toArray k n L s') :
    ∀ r : Option Oper, l.toArray[i]? = r → (match r with | some o => stepG P N0 md l.toArray o s fun s' => anyD P N0 md l.toArray k n (listed.setIfInBounds i true) s' | none => anyD P N0 md l.toArray k n (listed.setIfInBounds i true) s) := by
  intro r hr
  have : r = some o := by rw [← hr]; simpa using hi
  subst this
  subst hL
  exact seqQ_false h
theorem A_two (a b : Nat) (oa ob : Oper) (la lb : Array Bool) (hr : (Region.ready .any l.toArray listed == [a, b]) = true) (ha : l[a]? = some oa) (hb : l[b]? = some ob) (hla : listed.setIfInBounds a true = la) (hlb : listed.setIfInBounds b true = lb)
    (h1 : seqQ P md false l.toArray [oa] s fun s' => anyD P N0 md l.toArray k n la s') (h2 : seqQ P md false l.toArray [ob] s fun s' => anyD P N0 md l.toArray k n lb s') : anyD P N0 md l.toArray k (n + 1) listed s := by
  have hr' := beq_iff_eq.1 hr
  refine ⟨fun h0 => (by rw [h0] at hr'; cases hr'), fun i hi => ?_⟩
  rw [hr'] at hi
  have : i = a ∨ i = b := by simpa using hi
  rcases this with rfl | rfl
  · exact A_one ha hla h1 _ rfl
  · exact A_one hb hlb h2 _ rfl
theorem A_three (a b c : Nat) (oa ob oc : Oper) (la lb lc : Array Bool) (hr : (Region.ready .any l.toArray listed == [a, b, c]) = true) (ha : l[a]? = some oa) (hb : l[b]? = some ob) (hc : l[c]? = some oc) (hla : listed.setIfInBounds a true = la) (hlb : listed.setIfInBounds b true = lb) (hlc : listed.setIfInBounds c true = lc)
    (h1 : seqQ P md false l.toArray [oa] s fun s' => anyD P N0 md l.toArray k n la s') (h2 : seqQ P md false l.toArray [ob] s fun s' => anyD P N0 md l.toArray k n lb s') (h3 : seqQ P md false l.toArray [oc] s fun s' => anyD P N0 md l.toArray k n lc s') : anyD P N0 md l.toArray k (n + 1) listed s := by
  have hr' := beq_iff_eq.1 hr
  refine ⟨fun h0 => (by rw [h0] at hr'; cases hr'), fun i hi => ?_⟩
  rw [hr'] at hi
  have : i = a ∨ i = b ∨ i = c := by simpa using hi
  rcases this with rfl | rfl | rfl
  · exact A_one ha hla h1 _ rfl
  · exact A_one hb hlb h2 _ rfl
  · exact A_one hc hlc h3 _ rfl
end

/-! ## Cells of a local array; the lesser and the greater of two floats -/
def fmin (a b : Nat) : Option Nat := match FloatKind.f64.format.order a b with
  | some .lt => some a
  | some .gt => some b
  | some .eq => some (if (FloatKind.f64.decode a).neg then a else b)
  | none => none
def fmax (a b : Nat) : Option Nat := match FloatKind.f64.format.order a b with
  | some .lt => some b
  | some .gt => some a
  | some .eq => some (if (FloatKind.f64.decode a).neg then b else a)
  | none => none
theorem fmin_D (a b : Nat) : minD false [.float .f64 a, .float .f64 b] = (fmin a b).map (D.float .f64) := by
  unfold minD fmin
  simp only
  cases FloatKind.f64.format.order a b with
  | none => rfl
  | some o => cases o <;> rfl
theorem fmax_D (a b : Nat) : minD true [.float .f64 a, .float .f64 b] = (fmax a b).map (D.float .f64) := by
  unfold minD fmax
  simp only
  cases FloatKind.f64.format.order a b with
  | none => rfl
  | some o => cases o <;> rfl
section
variable {P : Program} {md : Nat → Nat} {w : Bool} {ops : Array Oper} {os : List Oper} {k : St → Prop} {n : Nat} {l : List (Nat × D)} {h : Heap} {d : Nat} {t ty : TypeId} {pos : String} {af : Array Edge} {x y z : Operand}
variable {β : Type} {G : β → Prop}
theorem S_fmin {ts : Array TypeId} {a b : Nat} {f : Nat → Option β} (hx : opL n l x = .float .f64 a) (hy : opL n l y = .float .f64 b) (hF : OptP ((fmin a b).bind f) G)
    (hk : ∀ r, fmin a b = some r → OptP (f r) G → seqQ P md w ops os ⟨mkSl n ((d, .float .f64 r) :: l), h⟩ k) : seqQ P md w ops (⟨some d, .call ⟨.builtin .min, #[x, y], ts⟩, ty, pos, af, none⟩ :: os) ⟨mkSl n l, h⟩ k := by
  obtain ⟨r, hr, hF⟩ := F_bind hF
  exact S_of (by
    simp only [effD, List.map_cons, List.map_nil, hx, hy, builtD, miscD, fmin_D, hr, Option.map_some, OptP_some]; exact hk r hr hF)
theorem S_fmax {ts : Array TypeId} {a b : Nat} {f : Nat → Option β} (hx : opL n l x = .float .f64 a) (hy : opL n l y = .float .f64 b) (hF : OptP ((fmax a b).bind f) G)
    (hk : ∀ r, fmax a b = some r → OptP (f r) G → seqQ P md w ops os ⟨mkSl n ((d, .float .f64 r) :: l), h⟩ k) : seqQ P md w ops (⟨some d, .call ⟨.builtin .max, #[x, y], ts⟩, ty, pos, af, none⟩ :: os) ⟨mkSl n l, h⟩ k := by
  obtain ⟨r, hr, hF⟩ := F_bind hF
  exact S_of (by
    simp only [effD, List.map_cons, List.map_nil, hx, hy, builtD, miscD, fmax_D, hr, Option.map_some, OptP_some]; exact hk r hr hF)
theorem S_ixA {K : IntKind} {id off m q i : Nat} {e : TypeId} (hx : opL n l x = .ptr id off) (hy : opL n l y = .int K (i : Int)) (ha : arD P t = some (m, e)) (hq : szD P e = some q) (hi : Nat.blt i m = true)
    (hk : seqQ P md w ops os ⟨mkSl n ((d, .ptr id (off + i * q)) :: l), h⟩ k) : seqQ P md w ops (⟨some d, .indexAddr t x y, ty, pos, af, none⟩ :: os) ⟨mkSl n l, h⟩ k := S_of (by
  have hi' : i < m := by simpa using hi
  simp only [effD, hx, hy, ev_ix_arr, ha, hq]
  rw [if_pos (by omega), Int.toNat_natCast, OptP_some]
  exact hk)
end

/-! ## Freezing an own row that an own object names -/
section
variable {P : Program} {md : Nat → Nat} {ops : Array Oper} {os : List Oper} {k : St → Prop} {n : Nat} {l : List (Nat × D)} {h : Heap} {O : List (Nat × AObj)}
theorem recell_at {K : Kn} {cs cs' : List D} {off : Nat} {old new : D} (hc : cs.getD off .any = old) (hC : cs.set off new = cs') (hV : ∀ v, VR K v old → VR K v new) (j : Nat) (v : Value) (hv : VR K v (cs.getD j .any)) : VR K v (cs'.getD j .any) := by
  rw [← hC, getD_set]
  split
  · rename_i he
    rw [← he.1, hc] at hv
    exact hV v hv
  · exact hv
theorem Cn_frzF {X : St → Prop} {i id : Nat} {cs cs' rs : List D} {old new : D} (j jj off : Nat) (ok : OK h O) (hO : O[j]? = some (i, .cells cs)) (hi : i ≠ 0) (hR : O[jj]? = some (id, .cells rs)) (hid : id ≠ 0) (hjj : j ≠ jj) (hc : cs.getD off .any = old)
    (hV : ∀ (K : Kn) (w : World) (v : Value), HR K (Hp h O) w → VR (K.frz w id rs.length) v old → VR (K.frz w id rs.length) v new) (hC : cs.set off new = cs')
    (hk : OK h ((O.set jj (0, .room)).set j (i, .cells cs')) → X ⟨mkSl n l, Hp h ((O.set jj (0, .room)).set j (i, .cells cs'))⟩) : Cn true ⟨mkSl n l, Hp h O⟩ X := fun K a u S => by
  have hx := Hp_get jj ok hR hid
  obtain ⟨E, H'⟩ := S.h.frz hx
  obtain ⟨e1, e2⟩ := Hp_rel jj ok hR hid
  have hO2 : (O.set jj (0, .room))[j]? = some (i, .cells cs) := by rw [List.getElem?_set_ne (Ne.symm hjj)]; exact hO
  obtain ⟨e3, e4⟩ := Hp_set (y := .cells cs') j e2 hO2 hi
  simp only [e1] at H'
  have H2 := H'.recell (i := i) (cs := cs) (cs' := cs') (Hp_get j e2 hO2 hi) (by rw [← hC]; simp) (fun q v hv => recell_at hc hC (fun v hv => hV K u v S.h hv) q v hv)
  rw [e3] at H2
  exact ⟨K.frz u id rs.length, ⟨mkSl n l, Hp h ((O.set jj (0, .room)).set j (i, .cells cs'))⟩, E, ⟨H2, S.d, S.n, fun i => (S.v i).mono E⟩, hk e4⟩
theorem Cn_cell {X : St → Prop} {i : Nat} {cs cs' : List D} {old new : D} (j off : Nat) (ok : OK h O) (hO : O[j]? = some (i, .cells cs)) (hi : i ≠ 0) (hc : cs.getD off .any = old) (hV : ∀ (K : Kn) (v : Value), VR K v old → VR K v new) (hC : cs.set off new = cs')
    (hk : OK h (O.set j (i, .cells cs')) → X ⟨mkSl n l, Hp h (O.set j (i, .cells cs'))⟩) : Cn true ⟨mkSl n l, Hp h O⟩ X := fun K a u S => by
  obtain ⟨e3, e4⟩ := Hp_set (y := .cells cs') j ok hO hi
  have H2 := S.h.recell (i := i) (cs := cs) (cs' := cs') (Hp_get j ok hO hi) (by rw [← hC]; simp) (fun q v hv => recell_at hc hC (fun v hv => hV K v hv) q v hv)
  simp only [e3] at H2
  exact ⟨K, ⟨mkSl n l, Hp h (O.set j (i, .cells cs'))⟩, Ext.refl K, ⟨H2, S.d, S.n, S.v⟩, hk e4⟩
theorem S_frzF {α : Type} {c : α → List D} {q id i : Nat} {e : List α} {cs cs' : List D} (j jj off : Nat) (ok : OK h O) (hz : id = 0 → e = []) (hO : O[j]? = some (i, .cells cs)) (hi : i ≠ 0) (hR : O[jj]? = some (mo id c e)) (hjj : j ≠ jj) (hq : ∀ a, (c a).length = q)
    (hc : cs.getD off .any = mslO q id e) (hC : cs.set off (.sl q (e.map c) 0) = cs')
    (hk : OK h ((O.set jj (0, .room)).set j (i, .cells cs')) → seqQ P md true ops os ⟨mkSl n l, Hp h ((O.set jj (0, .room)).set j (i, .cells cs'))⟩ k) : seqQ P md true ops os ⟨mkSl n l, Hp h O⟩ k := by
  cases id with
  | zero =>
    have e1 := hz rfl
    subst e1
    have hset : O.set jj (0, .room) = O := by
      obtain ⟨hlt, he⟩ := List.getElem?_eq_some_iff.1 hR
      have he' : O[jj] = (0, .room) := he
      apply List.ext_getElem?
      intro m
      rw [List.getElem?_set]
      split
      · rename_i hm
        subst hm
        rw [List.getElem?_eq_getElem hlt, he']
      · rfl
    rw [hset] at hk
    refine S_cn (Cn_cell j off ok hO hi hc (fun K v hv => ?_) hC hk)
    have hv' : VR K v .snil := hv
    cases hv'
    exact .slz q none
  | succ m =>
    refine S_cn (Cn_frzF (rs := fl c e) j jj off ok hO hi hR (Nat.succ_ne_zero m) hjj hc (fun K w v H hv => ?_) hC hk)
    have hv' : VR (K.frz w (m + 1) (fl c e).length) v (.msl q (m + 1) 0 e.length) := hv
    have hget := Hp_get jj ok hR (Nat.succ_ne_zero m)
    generalize hlen : e.length = N at hv'
    cases hv' with
    | msl _ _ _ _ cap hid hn hcap =>
      have := VR.frzS H (es := e.map c) hget (by simp; exact fun a _ => hq a) (v := .slice (some ⟨K.io (m + 1), 0, none⟩) N cap) (by
        rw [List.length_map, hlen]
        exact VR.msl q (m + 1) 0 N cap hid hn hcap)
      exact this
end
end Go.Proofs.YtocfjohangcajaaDoor
