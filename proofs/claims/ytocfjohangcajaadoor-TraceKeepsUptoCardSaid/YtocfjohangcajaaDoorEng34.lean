/- Rows of elements each of which has a row for itself (the innermost first), parts of cells, and what is cut off. No condition. -/
import Derived.Test.YtocfjohangcajaaDoorEng33
set_option linter.unusedSimpArgs false
set_option linter.unusedVariables false
namespace Go.Proofs.YtocfjohangcajaaDoor

theorem HR.trim {K : Kn} {h : Heap} {w : World} (H : HR K h w) {id : Nat} {cs ds : List D} (hx : h id = some (.cells (cs ++ ds))) : HR K (h.upd id (some (.cells cs))) w := by
  have key : ∀ i y, h.upd id (some (.cells cs)) i = some y → ∃ x, h i = some x ∧ (∀ b o, own K i y b o ↔ own K i x b o) ∧ (ObjOk K w i x → ObjOk K w i y) := by
    intro i y hy
    by_cases e : i = id
    · subst e
      rw [Heap.upd_same] at hy; injection hy with hy; subst hy
      refine ⟨_, hx, fun _ _ => Iff.rfl, fun ⟨a, b, c⟩ => ⟨by simp at a; omega, fun j hj => ?_, c⟩⟩
      obtain ⟨v, v1, v2, v3⟩ := b j hj
      refine ⟨v, v1, v2, ?_⟩
      by_cases hl : j < cs.length
      · rw [List.getD_eq_getElem?_getD, List.getElem?_append_left hl, ← List.getD_eq_getElem?_getD] at v3; exact v3
      · rw [List.getD_eq_getElem?_getD, List.getElem?_eq_none (by omega)]; exact .any _
    · rw [Heap.upd_ne _ _ e] at hy
      exact ⟨y, hy, fun _ _ => Iff.rfl, fun h => h⟩
  have h0 : id ≠ 0 := fun e => by have := H.z; rw [← e, hx] at this; simp at this
  refine ⟨fun i y hy => ?_, H.nz, H.mu, H.bs, H.old, fun i y hy => ?_, fun i y hy b o ho => ?_, fun i y hy b o ho => ?_, fun i j y z hij hy hz b o hoy hoz => ?_, ?_, H.ev, H.tb⟩
  · obtain ⟨x, hx, _⟩ := key i y hy; exact H.lt i x hx
  · obtain ⟨x, hx, _, hf⟩ := key i y hy; exact hf (H.ok i x hx)
  · obtain ⟨x, hx, hf, _⟩ := key i y hy; exact H.ge i x hx b o ((hf b o).1 ho)
  · obtain ⟨x, hx, hf, _⟩ := key i y hy; exact H.nomu i x hx b o ((hf b o).1 ho)
  · obtain ⟨x, hx, hf, _⟩ := key i y hy
    obtain ⟨x', hx', hf', _⟩ := key j z hz
    exact H.sep i j x x' hij hx hx' b o ((hf b o).1 hoy) ((hf' b o).1 hoz)
  · rw [Heap.upd_ne _ _ (Ne.symm h0)]; exact H.z

theorem VR.frzA {K : Kn} {h : Heap} {w : World} (H : HR K h w) {id k q : Nat} {es : List (List D)} (hx : h id = some (.cells es.flatten)) (hk : ∀ r ∈ es, r.length = k) {cs : List D} (hc : cs.getD q .any = .msl k id 0 es.length) {v : Value} (hv : VR K v (.agg cs)) :
    VR (K.frz w id es.flatten.length) v (.agg (cs.set q (.sl k es 0))) := by
  have E := (H.frz hx).1
  have hq : q < cs.length := by
    rcases Nat.lt_or_ge q cs.length with h | h
    · exact h
    · rw [List.getD_eq_getElem?_getD, List.getElem?_eq_none h] at hc; simp at hc
  cases hv with
  | agg x _ hx1 h1 hv =>
    refine .agg x _ (by simp [hx1]) h1 fun i => ?_
    by_cases e : q = i
    · subst e
      have := hv q
      rw [hc] at this
      rw [List.getD_eq_getElem?_getD, List.getElem?_set_self hq]
      exact VR.frzS H hx hk this
    · rw [List.getD_eq_getElem?_getD, List.getElem?_set_ne e, ← List.getD_eq_getElem?_getD]
      exact (hv i).mono E

/-- The last one of those that stand the innermost first. -/
def topU {α : Type} (e : List α) (i : Int) : Option (α × List α) := if i + 1 = (e.length : Int) then (match e with | [] => none | a :: l => some (a, l)) else none
theorem topU_spec {α : Type} {e : List α} {i : Int} {v : α × List α} (h : topU e i = some v) : i + 1 = (e.length : Int) ∧ e = v.1 :: v.2 := by
  unfold topU at h
  split at h
  · rename_i hi
    cases e with
    | nil => simp at h
    | cons a l => injection h with h; subst h; exact ⟨hi, rfl⟩
  · simp at h
def hid {α γ : Type} (ck : γ → List D) (kids : α → List γ) (x : List (α × Nat)) : List (Nat × AObj) := x.map fun p => mo p.2 ck (kids p.1)
def zk {α γ : Type} (kids : α → List γ) (x : List (α × Nat)) : Prop := ∀ p ∈ x, p.2 = 0 → kids p.1 = []
theorem hid_cons {α γ : Type} {ck : γ → List D} {kids : α → List γ} {a : α} {t : Nat} {x : List (α × Nat)} : hid ck kids ((a, t) :: x) = mo t ck (kids a) :: hid ck kids x := rfl
theorem zk_cons {α γ : Type} {kids : α → List γ} {a : α} {t : Nat} {x : List (α × Nat)} : zk kids ((a, t) :: x) ↔ (t = 0 → kids a = []) ∧ zk kids x := by
  simp [zk]
theorem stk_open {α : Type} {x : List (α × Nat)} {e l : List α} {a : α} (hx : x.map Prod.fst = e) (he : e = a :: l) : ∃ t xs, x = (a, t) :: xs ∧ xs.map Prod.fst = l := by
  subst he
  cases x with
  | nil => simp at hx
  | cons p xs =>
    obtain ⟨b, t⟩ := p
    simp at hx
    obtain ⟨rfl, h⟩ := hx
    exact ⟨t, xs, rfl, h⟩
theorem fl_rev {α : Type} {c : α × Nat → List D} {a : α} {t : Nat} {xs : List (α × Nat)} : fl c ((a, t) :: xs).reverse = fl c xs.reverse ++ c (a, t) := by
  rw [List.reverse_cons, fl_app]; simp [fl]
theorem fl_len {α : Type} {c : α × Nat → List D} {q : Nat} (hc : ∀ a, (c a).length = q) {xs : List (α × Nat)} {l : List α} (hx : xs.map Prod.fst = l) : (fl c xs.reverse).length = l.length * q := by
  rw [fl_length hc, ← hx]; simp
theorem zero_msl {α : Type} {q : Nat} {e : List α} : mslO q 0 e = .snil := rfl

/-- In another order. -/
theorem Hp_perm {h : Heap} {O O' : List (Nat × AObj)} (ok : OK h O) (p : O.Perm O') : Hp h O = Hp h O' ∧ OK h O' := by
  induction p with
  | nil => exact ⟨rfl, ok⟩
  | @cons x O O' p ih =>
    obtain ⟨e, ok'⟩ := ih ok.2
    obtain ⟨i, a⟩ := x
    refine ⟨?_, by rw [← e]; exact ok.1, ok'⟩
    show (if i = 0 then Hp h O else (Hp h O).upd i (some a)) = (if i = 0 then Hp h O' else (Hp h O').upd i (some a))
    rw [e]
  | swap x y l =>
    obtain ⟨i, a⟩ := x
    exact Hp_pull 1 ok rfl
  | trans _ _ i1 i2 =>
    obtain ⟨e1, ok1⟩ := i1 ok
    obtain ⟨e2, ok2⟩ := i2 ok1
    exact ⟨e1.trans e2, ok2⟩
theorem Hp_insE {h : Heap} {O : List (Nat × AObj)} (ok : OK h O) : Hp h O = Hp h (O ++ [(0, .room)]) ∧ OK h (O ++ [(0, .room)]) := by
  obtain ⟨e, ok'⟩ := Hp_perm (OK_nil ok) (List.perm_append_singleton (0, AObj.room) O).symm
  exact ⟨by rw [← e]; simp [Hp], ok'⟩

section
variable {P : Program} {md : Nat → Nat} {w : Bool} {ops : Array Oper} {os : List Oper} {k : St → Prop} {n : Nat} {l : List (Nat × D)} {h : Heap} {d : Nat} {t ty : TypeId} {pos : String} {af : Array Edge} {x y z : Operand}
variable {β : Type} {G : β → Prop} {O : List (Nat × AObj)}

/-- Cells that are cut off. -/
theorem S_trim {id : Nat} {cs ds : List D} (j : Nat) (ok : OK h O) (hO : O[j]? = some (id, .cells (cs ++ ds))) (hid : id ≠ 0)
    (hk : OK h (O.set j (id, .cells cs)) → seqQ P md true ops os ⟨mkSl n l, Hp h (O.set j (id, .cells cs))⟩ k) : seqQ P md true ops os ⟨mkSl n l, Hp h O⟩ k :=
  S_cn fun K a u S => by
    obtain ⟨e1, e2⟩ := Hp_set (y := .cells cs) j ok hO hid
    have H' := S.h.trim (Hp_get j ok hO hid)
    simp only [e1] at H'
    exact ⟨K, ⟨mkSl n l, Hp h (O.set j (id, .cells cs))⟩, Ext.refl K, ⟨H', S.d, S.n, S.v⟩, hk e2⟩

/-- A struct's row is left as it is. -/
theorem S_frzA {α : Type} {c : α → List D} {q id : Nat} {e : List α} {cs cs' : List D} (j d off : Nat) (ok : OK h O) (hz : id = 0 → e = []) (hv : look l d = .agg cs) (hO : O[j]? = some (mo id c e)) (hq : ∀ a, (c a).length = q)
    (hc : cs.getD off .any = mslO q id e) (hC : cs.set off (.sl q (e.map c) 0) = cs')
    (hk : OK h (O.set j (0, .room)) → seqQ P md true ops os ⟨mkSl n ((d, .agg cs') :: l), Hp h (O.set j (0, .room))⟩ k) : seqQ P md true ops os ⟨mkSl n l, Hp h O⟩ k := by
  subst hC
  cases id with
  | zero =>
    have e1 := hz rfl
    subst e1
    have hset : O.set j (0, .room) = O := by
      obtain ⟨hlt, he⟩ := List.getElem?_eq_some_iff.1 hO
      have he' : O[j] = (0, .room) := he
      rw [← he']; exact List.set_getElem_self hlt
    rw [hset] at hk
    refine S_one d (v := .agg (cs.set off (.sl q [] 0))) ?_ (hk ok)
    rw [hv]
    refine .agg _ _ (by simp) fun i => ?_
    by_cases h1 : off = i
    · subst h1
      have hc' : cs.getD off .any = .snil := hc
      have hl : off < cs.length := by
        rcases Nat.lt_or_ge off cs.length with h | h
        · exact h
        · rw [List.getD_eq_getElem?_getD, List.getElem?_eq_none h] at hc'; simp at hc'
      rw [hc', List.getD_eq_getElem?_getD, List.getElem?_set_self hl]; exact .nil q
    · rw [List.getD_eq_getElem?_getD (l := cs.set off _), List.getElem?_set_ne h1, ← List.getD_eq_getElem?_getD]; exact .refl _
  | succ m =>
    exact S_cn (Cn_frz j d ok hv hO (Nat.succ_ne_zero m) (fun K w v H hV => VR.frzA H (es := e.map c) (Hp_get j ok hO (Nat.succ_ne_zero m)) (by simp; exact fun a _ => hq a) (by simpa [mslO] using hc) hV) hk)

theorem S_ldK {i off f0 j : Nat} {pre cs : List D} {v : D} (ok : OK h O) (hm : md d = 0) (hx : opL n l x = .ptr i off) (hj : O[j]? = some (i, .cells (pre ++ cs))) (hi : i ≠ 0) (ho : off = pre.length + f0) (hp : partD P t (cs.drop f0) = some v)
    (hk : seqQ P md w ops os ⟨mkSl n ((d, v) :: l), Hp h O⟩ k) : seqQ P md w ops (⟨some d, .load t x, ty, pos, af, none⟩ :: os) ⟨mkSl n l, Hp h O⟩ k :=
  S_ldP ok hm hx hj hi (by rw [ho, List.drop_length_add_append]; exact hp) hk
theorem S_stK {i off f0 j : Nat} {pre cs cs' : List D} {v : D} (ok : OK h O) (hx : opL n l x = .ptr i off) (hy : opL n l y = v) (hj : O[j]? = some (i, .cells (pre ++ cs))) (hi : i ≠ 0) (ho : off = pre.length + f0) (h1 : v.lay = true) (h2 : szD P t = some v.cells.length)
    (h3 : Nat.ble (f0 + v.cells.length) cs.length = true) (h4 : putAt cs f0 v.cells = cs') (hk : OK h (O.set j (i, .cells (pre ++ cs'))) → seqQ P md w ops os ⟨mkSl n l, Hp h (O.set j (i, .cells (pre ++ cs')))⟩ k) :
    seqQ P md w ops (⟨none, .store t x y, ty, pos, af, none⟩ :: os) ⟨mkSl n l, Hp h O⟩ k :=
  S_st ok hx hy hj hi h1 h2 (by rw [ho]; have := Nat.le_of_ble_eq_true h3; simp only [List.length_append]; exact Nat.ble_eq_true_of_le (by omega)) (by
    subst h4 ho
    unfold putAt
    rw [List.take_length_add_append, Nat.add_assoc, List.drop_length_add_append]; simp) hk
theorem S_stKB {α : Type} {q id : Nat} {e : List α} {i off f0 j : Nat} {pre cs cs' : List D} (ok : OK h O) (hx : opL n l x = .ptr i off) (hy : opL n l y = mslO q id e) (hj : O[j]? = some (i, .cells (pre ++ cs))) (hi : i ≠ 0) (ho : off = pre.length + f0) (h2 : szD P t = some 1)
    (h3 : Nat.ble (f0 + 1) cs.length = true) (h4 : putAt cs f0 [mslO q id e] = cs') (hk : OK h (O.set j (i, .cells (pre ++ cs'))) → seqQ P md w ops os ⟨mkSl n l, Hp h (O.set j (i, .cells (pre ++ cs')))⟩ k) :
    seqQ P md w ops (⟨none, .store t x y, ty, pos, af, none⟩ :: os) ⟨mkSl n l, Hp h O⟩ k :=
  S_stK ok hx hy hj hi ho mslO_lay (by rw [mslO_cells]; exact h2) (by rw [mslO_cells]; exact h3) (by rw [mslO_cells]; exact h4) hk
theorem S_ixK {α : Type} {q id : Nat} {e : List α} {et : TypeId} {K : IntKind} {i : Int} {f : α × List α → Option β} (hx : opL n l x = .msl q id 0 e.length) (hy : opL n l y = .int K i) (hs : slD P t = some et) (hq : szD P et = some q)
    (hF : OptP ((topU e i).bind f) G) (hk : ∀ v, e = v.1 :: v.2 → OptP (f v) G → seqQ P md w ops os ⟨mkSl n ((d, .ptr id (v.2.length * q)) :: l), h⟩ k) : seqQ P md w ops (⟨some d, .indexAddr t x y, ty, pos, af, none⟩ :: os) ⟨mkSl n l, h⟩ k := by
  obtain ⟨v, hv, hF⟩ := F_bind hF
  obtain ⟨h1, h2⟩ := topU_spec hv
  have hl : e.length = v.2.length + 1 := by rw [h2]; simp
  have hi : i = (v.2.length : Int) := by omega
  have hx' : idx e i = some (e[v.2.length]'(by omega)) := by
    unfold idx
    rw [if_pos (by omega), hi, Int.toNat_natCast, List.getElem?_eq_getElem]
  refine S_ixM (e := e) (f := fun _ => f v) hx hy hs hq (by rw [hx']; exact hF) fun a _ hF => ?_
  have e1 : i.toNat = v.2.length := by omega
  rw [e1]; exact hk v h2 hF
theorem S_slK {α : Type} {q id : Nat} {e : List α} {et : TypeId} {hi : Option Operand} {j : Int} {f : α × List α → Option β} (hx : opL n l x = .msl q id 0 e.length) (hs : slD P t = some et) (hq : szD P et = some q)
    (h2 : boundD (hi.map (opL n l)) e.length = some j) (hF : OptP ((topU e j).bind f) G)
    (hk : ∀ v, e = v.1 :: v.2 → OptP (f v) G → seqQ P md w ops os ⟨mkSl n ((d, .msl q id 0 v.2.length) :: l), h⟩ k) :
    seqQ P md w ops (⟨some d, .slice t x none hi none, ty, pos, af, none⟩ :: os) ⟨mkSl n l, h⟩ k := by
  obtain ⟨v, hv, hF⟩ := F_bind hF
  obtain ⟨g1, g2⟩ := topU_spec hv
  have hl : e.length = v.2.length + 1 := by rw [g2]; simp
  have hs' : slc e 0 j = some (e.take v.2.length) := by
    unfold slc
    have : j.toNat = v.2.length := by omega
    rw [if_pos (by omega)]; simp [this]
  refine S_slM (e := e) (i := 0) (j := j) (f := fun _ => f v) hx hs hq bd_no h2 (by rw [hs']; exact hF) (fun b hb hF _ => ?_) (fun hb hF hn => absurd (.inl rfl) hn)
  rw [hs'] at hb; injection hb with hb
  have e1 : b.length = v.2.length := by rw [← hb]; simp; omega
  rw [e1]
  have := hk v g2 hF
  simpa using this
/-- One more, the innermost. -/
theorem S_pushK {α : Type} {q id j B : Nat} {zs cs : List D} {c : α × Nat → List D} {X : List (α × Nat)} {e : List α} {a : α} {u : TypeId} {f : List α → Option β} (ok : OK h O) (hm : md d = 1) (hX : X.map Prod.fst = e) (hx : opL n l x = .msl q id 0 e.length) (hy : opL n l y = .sl q [cs] 0) (ha : c (a, 0) = cs) (hc : ∀ a, (c a).length = q)
    (hj : O[j]? = some (id, .cells (fl c X.reverse))) (hid : id ≠ 0) (he : elD P t = some (q, B, zs)) (hu : notIntD P u = true) (hF : OptP ((app B e [a]).bind f) G)
    (hk : ∀ i, i ≠ 0 → OK h (O.set j (i, .cells (fl c ((a, 0) :: X).reverse))) → OptP (f (e ++ [a])) G → seqQ P md w ops os ⟨mkSl n ((d, .msl q i 0 (a :: e).length) :: l), Hp h (O.set j (i, .cells (fl c ((a, 0) :: X).reverse)))⟩ k) :
    seqQ P md w ops (⟨some d, .call ⟨.builtin .append, #[x, y], #[t, u]⟩, ty, pos, af, none⟩ :: os) ⟨mkSl n l, Hp h O⟩ k := by
  have hlen : X.reverse.length = e.length := by rw [← hX]; simp
  obtain ⟨v, hv, hF⟩ := F_bind hF
  have happ : app B X.reverse [(a, 0)] = some (X.reverse ++ [(a, 0)]) ∧ v = e ++ [a] := by
    unfold app at hv ⊢
    rw [hlen]
    split at hv
    · rename_i hcc
      injection hv with hv
      exact ⟨if_pos hcc, hv.symm⟩
    · simp at hv
  obtain ⟨happ, rfl⟩ := happ
  refine S_appM (e := X.reverse) (M := [(a, 0)]) (f := fun _ => f (e ++ [a])) ok hm (by rw [hx, hlen]) (by rw [hy, ← ha]; simp [srcD]) hc hj hid he hu (by rw [happ]; exact hF) fun i hi ok' hF' => ?_
  have e1 : (X.reverse ++ [(a, 0)]).length = (a :: e).length := by simp [← hX]
  have := hk i hi
  rw [List.reverse_cons] at this
  rw [e1]; exact this ok' hF'
/-- A zero element is appended .. -/
theorem S_appZ {α : Type} {q id j B : Nat} {zs zs0 : List D} {c : α → List D} {e : List α} {z0 : α} {u : TypeId} {f : List α → Option β} (ok : OK h O) (hz : id = 0 → e = []) (hm : md d = 1) (hx : opL n l x = mslO q id e) (hy : opL n l y = .sl q [zs] 0) (hl : zs.length = q) (hc : ∀ a, (c a).length = q)
    (hj : O[j]? = some (mo id c e)) (he : elD P t = some (q, B, zs0)) (hu : notIntD P u = true) (hF : OptP ((app B e [z0]).bind f) G)
    (hk : ∀ i, i ≠ 0 → OK h (O.set j (i, .cells (fl c e ++ zs))) → OptP (f (e ++ [z0])) G → seqQ P md w ops os ⟨mkSl n ((d, .msl q i 0 (e.length + 1)) :: l), Hp h (O.set j (i, .cells (fl c e ++ zs)))⟩ k) :
    seqQ P md w ops (⟨some d, .call ⟨.builtin .append, #[x, y], #[t, u]⟩, ty, pos, af, none⟩ :: os) ⟨mkSl n l, Hp h O⟩ k := by
  obtain ⟨v, hv, hF⟩ := F_bind hF
  have e1 : fl (Subtype.val (p := fun l : List D => l.length = q)) (e.map fun a => ⟨c a, hc a⟩) = fl c e := by
    simp only [fl, List.map_map]; rfl
  have happ : app B (e.map fun a => (⟨c a, hc a⟩ : {l : List D // l.length = q})) [⟨zs, hl⟩] = some ((e.map fun a => (⟨c a, hc a⟩ : {l : List D // l.length = q})) ++ [⟨zs, hl⟩]) ∧ v = e ++ [z0] := by
    unfold app at hv ⊢
    rw [List.length_map]
    split at hv
    · rename_i hcc
      injection hv with hv
      exact ⟨if_pos hcc, hv.symm⟩
    · simp at hv
  obtain ⟨happ, rfl⟩ := happ
  have emo : mo id (Subtype.val (p := fun l : List D => l.length = q)) (e.map fun a => ⟨c a, hc a⟩) = mo id c e := by
    cases id with
    | zero => rfl
    | succ m => simp only [mo, e1]
  refine S_appO (c := Subtype.val (p := fun l : List D => l.length = q)) (e := e.map fun a => ⟨c a, hc a⟩) (M := [⟨zs, hl⟩]) (f := fun _ => f (e ++ [z0])) ok (fun h0 => by rw [hz h0]; rfl) hm (by rw [hx]; exact mslO_eq (by simp)) (by rw [hy]; simp [srcD]) (fun a => a.2) (by rw [hj, emo]) he hu (by rw [happ]; exact hF) fun i hi ok' hF' => ?_
  have hi0 : i ≠ 0 := fun h0 => by have := hi h0; simp at this
  have e2 : fl (Subtype.val (p := fun l : List D => l.length = q)) ((e.map fun a => ⟨c a, hc a⟩) ++ [⟨zs, hl⟩]) = fl c e ++ zs := by
    rw [fl_app, e1]; simp [fl]
  rw [mo_pos hi0, e2] at ok' ⊢
  rw [mslO_pos hi0]
  have := hk i hi0 ok' hF'
  simpa using this
/-- .. its place .. -/
theorem S_ixZ {α : Type} {q id : Nat} {e : List α} {et : TypeId} {K : IntKind} (hx : opL n l x = .msl q id 0 (e.length + 1)) (hy : opL n l y = .int K (e.length : Int)) (hs : slD P t = some et) (hq : szD P et = some q)
    (hk : seqQ P md w ops os ⟨mkSl n ((d, .ptr id (e.length * q)) :: l), h⟩ k) : seqQ P md w ops (⟨some d, .indexAddr t x y, ty, pos, af, none⟩ :: os) ⟨mkSl n l, h⟩ k := by
  have hi : idx (List.replicate (e.length + 1) ()) (e.length : Int) = some () := by
    unfold idx
    rw [if_pos (by omega), Int.toNat_natCast, List.getElem?_replicate]; simp
  refine S_ixM (e := List.replicate (e.length + 1) ()) (i := (e.length : Int)) (β := Unit) (G := fun _ => True) (f := fun _ => some ()) (q := q) (id := id) (by rw [hx, List.length_replicate]) hy hs hq (by rw [hi]; exact ⟨(), rfl, trivial⟩) fun a _ _ => ?_
  simpa using hk
/-- .. and what is stored there. -/
theorem S_stZ {α : Type} {q i j : Nat} {zs : List D} {c : α → List D} {e : List α} {b : α} {v : D} (ok : OK h O) (hx : opL n l x = .ptr i (e.length * q)) (hy : opL n l y = v) (hj : O[j]? = some (i, .cells (fl c e ++ zs))) (hi : i ≠ 0) (hc : ∀ a, (c a).length = q) (hl : zs.length = q) (h1 : v.lay = true) (h2 : szD P t = some q) (h4 : v.cells = c b)
    (hk : OK h (O.set j (mo i c (e ++ [b]))) → seqQ P md w ops os ⟨mkSl n l, Hp h (O.set j (mo i c (e ++ [b])))⟩ k) :
    seqQ P md w ops (⟨none, .store t x y, ty, pos, af, none⟩ :: os) ⟨mkSl n l, Hp h O⟩ k := by
  have hb : (c b).length = q := hc b
  have e1 : fl c (e ++ [b]) = fl c e ++ c b := by rw [fl_app]; simp [fl]
  rw [mo_pos hi, e1] at hk
  exact S_stK (f0 := 0) (cs' := c b) ok hx hy hj hi (by rw [fl_length hc]; rfl) h1 (by rw [h4, hb]; exact h2) (by rw [h4, hb, hl]; exact Nat.ble_eq_true_of_le (by omega)) (by rw [h4]; unfold putAt; rw [hb, List.drop_of_length_le (by omega)]; simp) hk
theorem S_hpe {O' : List (Nat × AObj)} (e : Hp h O = Hp h O') (hk : seqQ P md w ops os ⟨mkSl n l, Hp h O'⟩ k) : seqQ P md w ops os ⟨mkSl n l, Hp h O⟩ k := by rw [e]; exact hk
theorem Hp_insM (pre : List (Nat × AObj)) {L : List (Nat × AObj)} (ok : OK h (pre ++ L)) : Hp h (pre ++ L) = Hp h (pre ++ (0, .room) :: L) ∧ OK h (pre ++ (0, .room) :: L) := by
  obtain ⟨e, ok'⟩ := Hp_perm (OK_nil ok) (List.perm_middle (l₁ := pre) (a := (0, AObj.room)) (l₂ := L)).symm
  exact ⟨by rw [← e]; simp [Hp], ok'⟩
theorem Hp_ins2 {A B : Nat × AObj} {L : List (Nat × AObj)} (ok : OK h (A :: B :: L)) : Hp h (A :: B :: L) = Hp h (A :: B :: (0, .room) :: L) ∧ OK h (A :: B :: (0, .room) :: L) := by
  have e1 : Hp h ((0, .room) :: L) = Hp h L := by simp [Hp]
  obtain ⟨a, aa⟩ := A
  obtain ⟨b, bb⟩ := B
  have e2 : Hp h ((b, bb) :: (0, .room) :: L) = Hp h ((b, bb) :: L) := by
    show (if b = 0 then Hp h ((0, .room) :: L) else (Hp h ((0, .room) :: L)).upd b (some bb)) = _
    rw [e1]; rfl
  refine ⟨?_, ?_⟩
  · show _ = (if a = 0 then Hp h ((b, bb) :: (0, .room) :: L) else (Hp h ((b, bb) :: (0, .room) :: L)).upd a (some aa))
    rw [e2]; rfl
  exact ⟨by rw [e2]; exact ok.1, by rw [e1]; exact ok.2.1, OK_nil ok.2.2⟩
/-- A function with what it has captured. -/
theorem S_mkF {f : Fn} {b : Array Operand} {ca : List D} (hb : b.toList.map (opL n l) = ca) (hk : seqQ P md w ops os ⟨mkSl n ((d, .fn f [] ca) :: l), h⟩ k) :
    seqQ P md w ops (⟨some d, .makeFunc f #[] b, ty, pos, af, none⟩ :: os) ⟨mkSl n l, h⟩ k := S_of (by
  subst hb
  simp only [effD]; exact hk)
end
theorem e_ssn {P : Program} {h : Heap} {t : TypeId} (ht : (slD P t).isSome = true) : binD P h .eql t .snil .snil = some (.bool true) := by
  simp only [binD, quietEq, eqD, if_true, ht, Option.map_some]
theorem e_sxn {P : Program} {h : Heap} {t : TypeId} {k : Nat} {es sp : List (List D)} (ht : (slD P t).isSome = true) : binD P h .eql t (.slx k es sp) .snil = some (.bool false) := by
  simp only [binD, quietEq, eqD, if_true, ht, Option.map_some]
theorem e_sln {P : Program} {h : Heap} {t : TypeId} {k r : Nat} {es : List (List D)} (ht : (slD P t).isSome = true) (hne : es ≠ []) : binD P h .eql t (.sl k es r) .snil = some (.bool false) := by
  simp only [binD, quietEq, eqD, if_true, ht, Option.map_some, true_and, ne_eq, hne, not_false_eq_true, and_self]
section
variable {P : Program} {md : Nat → Nat} {ops : Array Oper} {os : List Oper} {k : St → Prop} {n : Nat} {l : List (Nat × D)} {h : Heap}
/-- Of nothing it is either known that it is nil, or that it is not. -/
theorem S_slsp {q : Nat} (d : Nat) (hd : Nat.blt d n = true) (hv : look l d = .sl q [] 0) (h1 : seqQ P md true ops os ⟨mkSl n ((d, .snil) :: l), h⟩ k) (h2 : seqQ P md true ops os ⟨mkSl n ((d, .slx q [] []) :: l), h⟩ k) :
    seqQ P md true ops os ⟨mkSl n l, h⟩ k := S_cn fun K a u S => by
  have hlt : d < n := by simpa using hd
  have hvd := S.v d
  simp only [mkSl_getD, if_pos hlt, hv] at hvd
  have key : ∀ v : D, VR K (a.tmps.getD d undef) v → Sim K ⟨mkSl n ((d, v) :: l), h⟩ a u := fun v hr => ⟨S.h, S.d, by rw [S.n]; simp [mkSl_length], fun i => by
    have hvi := S.v i
    simp only [mkSl_getD] at hvi ⊢
    split
    · rename_i hi
      rw [if_pos hi] at hvi
      show VR _ _ (match Nat.beq d i with | true => v | false => look l i)
      cases hb : Nat.beq d i with
      | true => rw [Nat.beq_eq] at hb; subst hb; exact hr
      | false => exact hvi
    · exact .any _⟩
  generalize hg : a.tmps.getD d undef = v at hvd key
  cases hvd with
  | slz _ ad =>
    cases ad with
    | none => exact ⟨K, _, Ext.refl K, key _ .snil, h1⟩
    | some ad => exact ⟨K, _, Ext.refl K, key _ (.slxz q ad), h2⟩
  | sln => exact ⟨K, _, Ext.refl K, key _ .snil, h1⟩
  | sl b o _ _ _ cap vs hk hm hvv hc hr =>
    exact ⟨K, _, Ext.refl K, key _ (.slx b o q [] [] cap vs (by simp) (by simp) (fun i j => by simp; exact .any _) (by simp)), h2⟩
end
/-- Are they as long? -/
def eqL {α : Type} (a b : List α) : Option Unit := if a.length = b.length then some () else none
theorem eqL_spec {α : Type} {a b : List α} {u : Unit} (h : eqL a b = some u) : a.length = b.length := by
  unfold eqL at h
  split at h
  · assumption
  · simp at h
/-- One that has nothing yet. -/
theorem hid_push {α γ : Type} {ck : γ → List D} {kids : α → List γ} {a : α} {x : List (α × Nat)} : hid ck kids ((a, 0) :: x) = (0, .room) :: hid ck kids x := rfl
/-! ## A row's end made zero, and left -/
def ltL (i : Int) (n : Nat) : Option Unit := if 0 ≤ i ∧ i < (n : Int) then some () else none
section
variable {P : Program} {md : Nat → Nat} {ops : Array Oper} {os : List Oper} {k : St → Prop} {n : Nat} {l : List (Nat × D)} {h : Heap} {d : Nat} {t ty : TypeId} {pos : String} {af : Array Edge} {x y z : Operand}
variable {β : Type} {G : β → Prop} {O : List (Nat × AObj)}
theorem S_clrO {α : Type} {c : α → List D} {e v : List α} {q id : Nat} {et : TypeId} {zs : List D} {f : Unit → Option β} {i : Int} (j : Nat) (ok : OK h O) (hz : id = 0 → e = []) (hO : O[j]? = some (mo id c e)) (hq : ∀ a, (c a).length = q) (h0 : Nat.blt 0 q = true)
    (hv : slc e i (e.length : Int) = some v) (hx : opL n l x = mslS q id i e.length v) (hs : slD P t = some et) (hzc : zcD P et = some zs) (hzl : zs.length = q) (hF : OptP ((ltL i e.length).bind f) G)
    (hk : OptP (f ()) G → id ≠ 0 → 0 ≤ i ∧ i < (e.length : Int) → OK h (O.set j (mo id c (e.take i.toNat))) → seqQ P md true ops os ⟨mkSl n l, Hp h (O.set j (mo id c (e.take i.toNat)))⟩ k) :
    seqQ P md true ops (⟨none, .call ⟨.builtin .clear, #[x], #[t]⟩, ty, pos, af, none⟩ :: os) ⟨mkSl n l, Hp h O⟩ k := by
  obtain ⟨_, hg, hF⟩ := F_bind hF
  unfold ltL at hg
  split at hg
  case isFalse => cases hg
  rename_i hi
  have hid : id ≠ 0 := fun h => by have := hz h; subst this; simp at hi; omega
  obtain ⟨_, _, _, hve⟩ := slc_get hv
  have hvl : v.length = e.length - i.toNat := by rw [hve, List.length_take, List.length_drop]; omega
  have hO' : O[j]? = some (id, .cells (fl c e)) := by rw [hO, mo_pos hid]
  have hx' : opL n l x = .msl q id (i.toNat * q) v.length := by rw [hx]; unfold mslS; rw [if_neg hid, if_pos (.inr hi.2)]
  have hle : i.toNat ≤ e.length := by omega
  have hfe : fl c e = fl c (e.take i.toNat) ++ fl c (e.drop i.toNat) := by
    conv => lhs; rw [← List.take_append_drop i.toNat e]
    unfold fl; rw [List.map_append, List.flatten_append]
  have hft : (fl c (e.take i.toNat)).length = i.toNat * q := by rw [fl_length hq, List.length_take, Nat.min_eq_left hle]
  have hfd : (fl c (e.drop i.toNat)).length = v.length * q := by rw [fl_length hq, List.length_drop, hvl]
  have hdl : (List.replicate v.length zs).flatten.length = v.length * q := by simp [hzl]
  have hput : putAt (fl c e) (i.toNat * q) (List.replicate v.length zs).flatten = fl c (e.take i.toNat) ++ (List.replicate v.length zs).flatten := by
    unfold putAt
    rw [hdl, hfe, ← hft, List.take_left, List.drop_eq_nil_of_le (by rw [List.length_append, hft, hfd]; omega), List.append_nil]
  obtain ⟨e3, e4⟩ := Hp_set (y := .cells (fl c (e.take i.toNat) ++ (List.replicate v.length zs).flatten)) j ok hO' hid
  refine S_ofN ?_
  simp only [effD, builtD, List.map_cons, List.map_nil, hx', clearD, hs, hzc, Hp_get j ok hO' hid]
  refine ⟨hzl, by omega, by rw [Nat.blt_eq] at h0; exact h0, by rw [hfe, List.length_append, hft, hfd]; omega, ?_⟩
  rw [hput, e3]
  have hjl : j < O.length := (List.getElem?_eq_some_iff.1 hO).1
  refine S_trim (id := id) (cs := fl c (e.take i.toNat)) (ds := (List.replicate v.length zs).flatten) j e4 (by rw [List.getElem?_set_self hjl]) hid fun ok' => ?_
  rw [List.set_set] at ok' ⊢
  have hm : ((id, .cells (fl c (e.take i.toNat))) : Nat × AObj) = mo id c (e.take i.toNat) := (mo_pos hid).symm
  rw [hm] at ok' ⊢
  exact hk hF hid hi ok'
theorem S_slT {α : Type} {q id N : Nat} {e : List α} {i : Int} {w : Bool} {et : TypeId} (hid : id ≠ 0) (hx : opL n l x = .msl q id 0 N) (hy : opL n l y = .int .i64 i) (hs : slD P t = some et) (hq : szD P et = some q) (h0 : 0 ≤ i) (h1 : i ≤ (N : Int)) (he : (e.length : Int) = i)
    (hk : seqQ P md w ops os ⟨mkSl n ((d, mslO q id e) :: l), h⟩ k) : seqQ P md w ops (⟨some d, .slice t x none (some y) none, ty, pos, af, none⟩ :: os) ⟨mkSl n l, h⟩ k := S_of (by
  have e1 : i.toNat = e.length := by omega
  simp only [effD, Option.map_none, Option.map_some, hx, hy, sliceD, hs, hq, if_true, boundD]
  rw [if_pos (by omega)]
  rw [mslO_pos hid] at hk
  simp only [OptP_some]
  simpa [e1] using hk)
end
end Go.Proofs.YtocfjohangcajaaDoor
