/- Rows of elements each of which has a row for itself (the innermost first), parts of cells, and what is cut off. No condition. -/
import Derived.Test.YtilhbalhkljanaaGreatDoorEng33
set_option linter.unusedSimpArgs false
set_option linter.unusedVariables false
namespace Go.Proofs.YtilhbalhkljanaaGreatDoor
theorem HR.trim {K : Kn} {h : Heap} {w : World} (H : HR K h w) {id : Nat} {cs ds : List D} (hx : h id = some (.cells (cs ++ ds))) : HR K (h.upd id (some (.cells cs))) w := by
 have key : ∀ i y, h.upd id (some (.cells cs)) i = some y → ∃ x, h i = some x ∧ (∀ b o, own K i y b o ↔ own K i x b o) ∧ (ObjOk K w i x → ObjOk K w i y) := by
  intro i y hy
  by_cases e : i = id
  ·subst e
   rw [Heap.upd_same] at hy; injection hy with hy; subst hy
   refine ⟨_, hx, fun _ _ => Iff.rfl, fun ⟨a, b, c⟩ => ⟨by simp at a; omega, fun j hj => ?_, c⟩⟩
   obtain ⟨v, v1, v2, v3⟩ := b j hj
   refine ⟨v, v1, v2, ?_⟩
   by_cases hl : j < cs.length
   ·rw [List.getD_eq_getElem?_getD, List.getElem?_append_left hl, ← List.getD_eq_getElem?_getD] at v3; exact v3
   ·rw [List.getD_eq_getElem?_getD, List.getElem?_eq_none om]; exact .any _
  ·rw [Heap.upd_ne _ _ e] at hy
   exact ⟨y, hy, fun _ _ => Iff.rfl, fun h => h⟩
 have h0 : id ≠ 0 := fun e => by have := H.z; rw [← e, hx] at this; simp at this
 refine ⟨fun i y hy => ?_, H.nz, H.mu, H.bs, H.old, fun i y hy => ?_, fun i y hy b o ho => ?_, fun i y hy b o ho => ?_, fun i j y z hij hy hz b o hoy hoz => ?_, ?_, H.ev, H.tb⟩
 ·obtain ⟨x, hx, _⟩ := key i y hy; exact H.lt i x hx
 ·obtain ⟨x, hx, _, hf⟩ := key i y hy; exact hf (H.ok i x hx)
 ·obtain ⟨x, hx, hf, _⟩ := key i y hy; exact H.ge i x hx b o ((hf b o).1 ho)
 ·obtain ⟨x, hx, hf, _⟩ := key i y hy; exact H.nomu i x hx b o ((hf b o).1 ho)
 ·obtain ⟨x, hx, hf, _⟩ := key i y hy
  obtain ⟨x', hx', hf', _⟩ := key j z hz
  exact H.sep i j x x' hij hx hx' b o ((hf b o).1 hoy) ((hf' b o).1 hoz)
 ·rw [Heap.upd_ne _ _ (Ne.symm h0)]; exact H.z
theorem VR.frzA {K : Kn} {h : Heap} {w : World} (H : HR K h w) {id k q : Nat} {es : List (List D)} (hx : h id = some (.cells es.flatten)) (hk : ∀ r ∈ es, r.length = k) {cs : List D} (hc : cs.getD q .any = .msl k id 0 es.length) {v : Value} (hv : VR K v (.agg cs)) :
  VR (K.frz w id es.flatten.length) v (.agg (cs.set q (.sl k es 0))) := by
 have E := (H.frz hx).1
 have hq : q < cs.length := by
  rcases Nat.lt_or_ge q cs.length with h | h
  ·exact h
  ·rw [List.getD_eq_getElem?_getD, List.getElem?_eq_none h] at hc; simp at hc
 cases hv with
 | agg x _ hx1 h1 hv =>
  refine .agg x _ (by simp [hx1]) h1 fun i => ?_
  by_cases e : q = i
  ·subst e
   have := hv q
   rw [hc] at this
   rw [List.getD_eq_getElem?_getD, List.getElem?_set_self hq]
   exact VR.frzS H hx hk this
  ·rw [List.getD_eq_getElem?_getD, List.getElem?_set_ne e, ← List.getD_eq_getElem?_getD]
   exact (hv i).mono E
def Iz {α : Type} (e : List α) (i : Int) : Option (α × List α) := if i + 1 = (e.length : Int) then (match e with | [] => none | a :: l => some (a, l)) else none
theorem Pa {α : Type} {e : List α} {i : Int} {v : α × List α} (h : Iz e i = some v) : i + 1 = (e.length : Int) ∧ e = v.1 :: v.2 := by
 unfold Iz at h
 split at h
 ·rename_i hi
  cases e with
  | nil => simp at h
  | cons a l => injection h with h; subst h; exact ⟨hi, rfl⟩
 ·simp at h
def hid {α γ : Type} (ck : γ → List D) (kids : α → List γ) (x : List (α × Nat)) : List (Nat × AObj) := x.map fun p => mo p.2 ck (kids p.1)
def zk {α γ : Type} (kids : α → List γ) (x : List (α × Nat)) : Prop := ∀ p ∈ x, p.2 = 0 → kids p.1 = []
theorem Gz {α : Type} {x : List (α × Nat)} {e l : List α} {a : α} (hx : x.map Prod.fst = e) (he : e = a :: l) : ∃ t xs, x = (a, t) :: xs ∧ xs.map Prod.fst = l := by
 subst he
 cases x with
 | nil => simp at hx
 | cons p xs =>
  obtain ⟨b, t⟩ := p
  simp at hx
  obtain ⟨rfl, h⟩ := hx
  exact ⟨t, xs, rfl, h⟩
theorem B8 {α : Type} {c : α × Nat → List D} {a : α} {t : Nat} {xs : List (α × Nat)} : fl c ((a, t) :: xs).reverse = fl c xs.reverse ++ c (a, t) := by
 rw [List.reverse_cons, Pm]; simp [fl]
theorem IP {α : Type} {c : α × Nat → List D} {q : Nat} (hc : ∀ a, (c a).length = q) {xs : List (α × Nat)} {l : List α} (hx : xs.map Prod.fst = l) : (fl c xs.reverse).length = l.length * q := by
 rw [Gl hc, ← hx]; simp
theorem MJ {h : Heap} {O O' : List (Nat × AObj)} (ok : OK h O) (p : O.Perm O') : Hp h O = Hp h O' ∧ OK h O' := by
 induction p with
 | nil => exact ⟨rfl, ok⟩
 | @cons x O O' p ih =>
  obtain ⟨e, ok'⟩ := ih ok.2
  obtain ⟨i, a⟩ := x
  refine ⟨?_, by rw [← e]; exact ok.1, ok'⟩
  show (if i = 0 then Hp h O else (Hp h O).upd i (some a)) = (if i = 0 then Hp h O' else (Hp h O').upd i (some a))
  rw [e]
 | swap x y l =>
  obtain ⟨i, a⟩ := x
  exact A6 1 ok rfl
 | trans _ _ i1 i2 =>
  obtain ⟨e1, ok1⟩ := i1 ok
  obtain ⟨e2, ok2⟩ := i2 ok1
  exact ⟨e1.trans e2, ok2⟩
theorem Ze {h : Heap} {O : List (Nat × AObj)} (ok : OK h O) : Hp h O = Hp h (O ++ [(0, .room)]) ∧ OK h (O ++ [(0, .room)]) := by
 obtain ⟨e, ok'⟩ := MJ (MU ok) (List.perm_append_singleton (0, AObj.room) O).symm
 exact ⟨by rw [← e]; simp [Hp], ok'⟩
section
variable {P : Program} {md : Nat → Nat} {w : Bool} {ops : Array Oper} {os : List Oper} {k : St → Prop} {n : Nat} {l : List (Nat × D)} {h : Heap} {d : Nat} {t ty : TypeId} {pos : String} {af : Array Edge} {x y z : Operand}
variable {β : Type} {G : β → Prop} {O : List (Nat × AObj)}
theorem WN {id : Nat} {cs ds : List D} (j : Nat) (ok : OK h O) (hO : O[j]? = some (id, .cells (cs ++ ds))) (hid : id ≠ 0)
  (hk : OK h (O.set j (id, .cells cs)) → Aw P md true ops os ⟨Ak n l, Hp h (O.set j (id, .cells cs))⟩ k) : Aw P md true ops os ⟨Ak n l, Hp h O⟩ k :=
 Q9 fun K a u S => by
  obtain ⟨e1, e2⟩ := Jk (y := .cells cs) j ok hO hid
  have H' := S.h.trim (DU j ok hO hid)
  simp only [e1] at H'
  exact ⟨K, ⟨Ak n l, Hp h (O.set j (id, .cells cs))⟩, Ext.refl K, ⟨H', S.d, S.n, S.v⟩, hk e2⟩
theorem XH {α : Type} {c : α → List D} {q id : Nat} {e : List α} {cs cs' : List D} (j d off : Nat) (ok : OK h O) (hz : id = 0 → e = []) (hv : EI l d = .agg cs) (hO : O[j]? = some (mo id c e)) (hq : ∀ a, (c a).length = q)
  (hc : cs.getD off .any = As q id e) (hC : cs.set off (.sl q (e.map c) 0) = cs')
  (hk : OK h (O.set j (0, .room)) → Aw P md true ops os ⟨Ak n ((d, .agg cs') :: l), Hp h (O.set j (0, .room))⟩ k) : Aw P md true ops os ⟨Ak n l, Hp h O⟩ k := by
 subst hC
 cases id with
 | zero =>
  have e1 := hz rfl
  subst e1
  have hset : O.set j (0, .room) = O := by
   obtain ⟨hlt, he⟩ := List.getElem?_eq_some_iff.1 hO
   have he' : O[j] = (0, .room) := he
   rw [← he']; exact List.set_getElem_self hlt
  rw [hset] at hk
  refine Ed d (v := .agg (cs.set off (.sl q [] 0))) ?_ (hk ok)
  rw [hv]
  refine .agg _ _ (by simp) fun i => ?_
  by_cases h1 : off = i
  ·subst h1
   have hc' : cs.getD off .any = .snil := hc
   have hl : off < cs.length := by
    rcases Nat.lt_or_ge off cs.length with h | h
    ·exact h
    ·rw [List.getD_eq_getElem?_getD, List.getElem?_eq_none h] at hc'; simp at hc'
   rw [hc', List.getD_eq_getElem?_getD, List.getElem?_set_self hl]; exact .nil q
  ·rw [List.getD_eq_getElem?_getD (l := cs.set off _), List.getElem?_set_ne h1, ← List.getD_eq_getElem?_getD]; exact .refl _
 | succ m =>
  exact Q9 (SJ j d ok hv hO (Nat.succ_ne_zero m) (fun K w v H hV => VR.frzA H (es := e.map c) (DU j ok hO (Nat.succ_ne_zero m)) (by simp; exact fun a _ => hq a) (by simpa [As] using hc) hV) hk)
theorem I4 {i off f0 j : Nat} {pre cs : List D} {v : D} (ok : OK h O) (hm : md d = 0) (hx : opL n l x = .ptr i off) (hj : O[j]? = some (i, .cells (pre ++ cs))) (hi : i ≠ 0) (ho : off = pre.length + f0) (hp : DH P t (cs.drop f0) = some v)
  (hk : Aw P md w ops os ⟨Ak n ((d, v) :: l), Hp h O⟩ k) : Aw P md w ops (⟨some d, .load t x, ty, pos, af, none⟩ :: os) ⟨Ak n l, Hp h O⟩ k :=
 Ds ok hm hx hj hi (by rw [ho, List.drop_length_add_append]; exact hp) hk
theorem T1 {i off f0 j : Nat} {pre cs cs' : List D} {v : D} (ok : OK h O) (hx : opL n l x = .ptr i off) (hy : opL n l y = v) (hj : O[j]? = some (i, .cells (pre ++ cs))) (hi : i ≠ 0) (ho : off = pre.length + f0) (h1 : v.lay = true) (h2 : szD P t = some v.cells.length)
  (h3 : Nat.ble (f0 + v.cells.length) cs.length = true) (h4 : Et cs f0 v.cells = cs') (hk : OK h (O.set j (i, .cells (pre ++ cs'))) → Aw P md w ops os ⟨Ak n l, Hp h (O.set j (i, .cells (pre ++ cs')))⟩ k) :
  Aw P md w ops (⟨none, .store t x y, ty, pos, af, none⟩ :: os) ⟨Ak n l, Hp h O⟩ k :=
 Ck ok hx hy hj hi h1 h2 (by rw [ho]; have := Nat.le_of_ble_eq_true h3; simp only [List.length_append]; exact Nat.ble_eq_true_of_le om) (by
  subst h4 ho
  unfold Et
  rw [List.take_length_add_append, Nat.add_assoc, List.drop_length_add_append]; simp) hk
theorem Yp {α : Type} {q id : Nat} {e : List α} {i off f0 j : Nat} {pre cs cs' : List D} (ok : OK h O) (hx : opL n l x = .ptr i off) (hy : opL n l y = As q id e) (hj : O[j]? = some (i, .cells (pre ++ cs))) (hi : i ≠ 0) (ho : off = pre.length + f0) (h2 : szD P t = some 1)
  (h3 : Nat.ble (f0 + 1) cs.length = true) (h4 : Et cs f0 [As q id e] = cs') (hk : OK h (O.set j (i, .cells (pre ++ cs'))) → Aw P md w ops os ⟨Ak n l, Hp h (O.set j (i, .cells (pre ++ cs')))⟩ k) :
  Aw P md w ops (⟨none, .store t x y, ty, pos, af, none⟩ :: os) ⟨Ak n l, Hp h O⟩ k :=
 T1 ok hx hy hj hi ho Q8 (by rw [Gi]; exact h2) (by rw [Gi]; exact h3) (by rw [Gi]; exact h4) hk
theorem ZH {α : Type} {q id : Nat} {e : List α} {et : TypeId} {K : IntKind} {i : Int} {f : α × List α → Option β} (hx : opL n l x = .msl q id 0 e.length) (hy : opL n l y = .int K i) (hs : slD P t = some et) (hq : szD P et = some q)
  (hF : Ap ((Iz e i).bind f) G) (hk : ∀ v, e = v.1 :: v.2 → Ap (f v) G → Aw P md w ops os ⟨Ak n ((d, .ptr id (v.2.length * q)) :: l), h⟩ k) : Aw P md w ops (⟨some d, .indexAddr t x y, ty, pos, af, none⟩ :: os) ⟨Ak n l, h⟩ k := by
 obtain ⟨v, hv, hF⟩ := BT hF
 obtain ⟨h1, h2⟩ := Pa hv
 have hl : e.length = v.2.length + 1 := by rw [h2]; simp
 have hi : i = (v.2.length : Int) := by omega
 have hx' : idx e i = some (e[v.2.length]'om) := by
  unfold idx
  rw [if_pos om, hi, Int.toNat_natCast, List.getElem?_eq_getElem]
 refine Wl (e := e) (f := fun _ => f v) hx hy hs hq (by rw [hx']; exact hF) fun a _ hF => ?_
 have e1 : i.toNat = v.2.length := by omega
 rw [e1]; exact hk v h2 hF
theorem cC {α : Type} {q id : Nat} {e : List α} {et : TypeId} {hi : Option Operand} {j : Int} {f : α × List α → Option β} (hx : opL n l x = .msl q id 0 e.length) (hs : slD P t = some et) (hq : szD P et = some q)
  (h2 : Cw (hi.map (opL n l)) e.length = some j) (hF : Ap ((Iz e j).bind f) G)
  (hk : ∀ v, e = v.1 :: v.2 → Ap (f v) G → Aw P md w ops os ⟨Ak n ((d, .msl q id 0 v.2.length) :: l), h⟩ k) :
  Aw P md w ops (⟨some d, .slice t x none hi none, ty, pos, af, none⟩ :: os) ⟨Ak n l, h⟩ k := by
 obtain ⟨v, hv, hF⟩ := BT hF
 obtain ⟨g1, g2⟩ := Pa hv
 have hl : e.length = v.2.length + 1 := by rw [g2]; simp
 have hs' : slc e 0 j = some (e.take v.2.length) := by
  unfold slc
  have : j.toNat = v.2.length := by omega
  rw [if_pos om]; simp [this]
 refine ZJ (e := e) (i := 0) (j := j) (f := fun _ => f v) hx hs hq I5 h2 (by rw [hs']; exact hF) (fun b hb hF _ => ?_) (fun hb hF hn => absurd (.inl rfl) hn)
 rw [hs'] at hb; injection hb with hb
 have e1 : b.length = v.2.length := by rw [← hb]; simp; omega
 rw [e1]
 have := hk v g2 hF
 simpa using this
theorem Zl {α : Type} {q id j B : Nat} {zs cs : List D} {c : α × Nat → List D} {X : List (α × Nat)} {e : List α} {a : α} {u : TypeId} {f : List α → Option β} (ok : OK h O) (hm : md d = 1) (hX : X.map Prod.fst = e) (hx : opL n l x = .msl q id 0 e.length) (hy : opL n l y = .sl q [cs] 0) (ha : c (a, 0) = cs) (hc : ∀ a, (c a).length = q)
  (hj : O[j]? = some (id, .cells (fl c X.reverse))) (hid : id ≠ 0) (he : elD P t = some (q, B, zs)) (hu : DM P u = true) (hF : Ap ((app B e [a]).bind f) G)
  (hk : ∀ i, i ≠ 0 → OK h (O.set j (i, .cells (fl c ((a, 0) :: X).reverse))) → Ap (f (e ++ [a])) G → Aw P md w ops os ⟨Ak n ((d, .msl q i 0 (a :: e).length) :: l), Hp h (O.set j (i, .cells (fl c ((a, 0) :: X).reverse)))⟩ k) :
  Aw P md w ops (⟨some d, .call ⟨.builtin .append, #[x, y], #[t, u]⟩, ty, pos, af, none⟩ :: os) ⟨Ak n l, Hp h O⟩ k := by
 have hlen : X.reverse.length = e.length := by rw [← hX]; simp
 obtain ⟨v, hv, hF⟩ := BT hF
 have happ : app B X.reverse [(a, 0)] = some (X.reverse ++ [(a, 0)]) ∧ v = e ++ [a] := by
  unfold app at hv ⊢
  rw [hlen]
  split at hv
  ·rename_i hcc
   injection hv with hv
   exact ⟨if_pos hcc, hv.symm⟩
  ·simp at hv
 obtain ⟨happ, rfl⟩ := happ
 refine W5 (e := X.reverse) (M := [(a, 0)]) (f := fun _ => f (e ++ [a])) ok hm (by rw [hx, hlen]) (by rw [hy, ← ha]; simp [KZ]) hc hj hid he hu (by rw [happ]; exact hF) fun i hi ok' hF' => ?_
 have e1 : (X.reverse ++ [(a, 0)]).length = (a :: e).length := by simp [← hX]
 have := hk i hi
 rw [List.reverse_cons] at this
 rw [e1]; exact this ok' hF'
theorem Xa {α : Type} {q id j B : Nat} {zs zs0 : List D} {c : α → List D} {e : List α} {z0 : α} {u : TypeId} {f : List α → Option β} (ok : OK h O) (hz : id = 0 → e = []) (hm : md d = 1) (hx : opL n l x = As q id e) (hy : opL n l y = .sl q [zs] 0) (hl : zs.length = q) (hc : ∀ a, (c a).length = q)
  (hj : O[j]? = some (mo id c e)) (he : elD P t = some (q, B, zs0)) (hu : DM P u = true) (hF : Ap ((app B e [z0]).bind f) G)
  (hk : ∀ i, i ≠ 0 → OK h (O.set j (i, .cells (fl c e ++ zs))) → Ap (f (e ++ [z0])) G → Aw P md w ops os ⟨Ak n ((d, .msl q i 0 (e.length + 1)) :: l), Hp h (O.set j (i, .cells (fl c e ++ zs)))⟩ k) :
  Aw P md w ops (⟨some d, .call ⟨.builtin .append, #[x, y], #[t, u]⟩, ty, pos, af, none⟩ :: os) ⟨Ak n l, Hp h O⟩ k := by
 obtain ⟨v, hv, hF⟩ := BT hF
 have e1 : fl (Subtype.val (p := fun l : List D => l.length = q)) (e.map fun a => ⟨c a, hc a⟩) = fl c e := by
  simp only [fl, List.map_map]; rfl
 have happ : app B (e.map fun a => (⟨c a, hc a⟩ : {l : List D // l.length = q})) [⟨zs, hl⟩] = some ((e.map fun a => (⟨c a, hc a⟩ : {l : List D // l.length = q})) ++ [⟨zs, hl⟩]) ∧ v = e ++ [z0] := by
  unfold app at hv ⊢
  rw [List.length_map]
  split at hv
  ·rename_i hcc
   injection hv with hv
   exact ⟨if_pos hcc, hv.symm⟩
  ·simp at hv
 obtain ⟨happ, rfl⟩ := happ
 have emo : mo id (Subtype.val (p := fun l : List D => l.length = q)) (e.map fun a => ⟨c a, hc a⟩) = mo id c e := by
  cases id with
  | zero => rfl
  | succ m => simp only [mo, e1]
 refine II (c := Subtype.val (p := fun l : List D => l.length = q)) (e := e.map fun a => ⟨c a, hc a⟩) (M := [⟨zs, hl⟩]) (f := fun _ => f (e ++ [z0])) ok (fun h0 => by rw [hz h0]; rfl) hm (by rw [hx]; exact YJ (by simp)) (by rw [hy]; simp [KZ]) (fun a => a.2) (by rw [hj, emo]) he hu (by rw [happ]; exact hF) fun i hi ok' hF' => ?_
 have hi0 : i ≠ 0 := fun h0 => by have := hi h0; simp at this
 have e2 : fl (Subtype.val (p := fun l : List D => l.length = q)) ((e.map fun a => ⟨c a, hc a⟩) ++ [⟨zs, hl⟩]) = fl c e ++ zs := by
  rw [Pm, e1]; simp [fl]
 rw [Gh hi0, e2] at ok' ⊢
 rw [EO hi0]
 have := hk i hi0 ok' hF'
 simpa using this
theorem ZP {α : Type} {q id : Nat} {e : List α} {et : TypeId} {K : IntKind} (hx : opL n l x = .msl q id 0 (e.length + 1)) (hy : opL n l y = .int K (e.length : Int)) (hs : slD P t = some et) (hq : szD P et = some q)
  (hk : Aw P md w ops os ⟨Ak n ((d, .ptr id (e.length * q)) :: l), h⟩ k) : Aw P md w ops (⟨some d, .indexAddr t x y, ty, pos, af, none⟩ :: os) ⟨Ak n l, h⟩ k := by
 have hi : idx (List.replicate (e.length + 1) ()) (e.length : Int) = some () := by
  unfold idx
  rw [if_pos om, Int.toNat_natCast, List.getElem?_replicate]; simp
 refine Wl (e := List.replicate (e.length + 1) ()) (i := (e.length : Int)) (β := Unit) (G := fun _ => True) (f := fun _ => some ()) (q := q) (id := id) (by rw [hx, List.length_replicate]) hy hs hq (by rw [hi]; exact ⟨(), rfl, trivial⟩) fun a _ _ => ?_
 simpa using hk
theorem T3 {α : Type} {q i j : Nat} {zs : List D} {c : α → List D} {e : List α} {b : α} {v : D} (ok : OK h O) (hx : opL n l x = .ptr i (e.length * q)) (hy : opL n l y = v) (hj : O[j]? = some (i, .cells (fl c e ++ zs))) (hi : i ≠ 0) (hc : ∀ a, (c a).length = q) (hl : zs.length = q) (h1 : v.lay = true) (h2 : szD P t = some q) (h4 : v.cells = c b)
  (hk : OK h (O.set j (mo i c (e ++ [b]))) → Aw P md w ops os ⟨Ak n l, Hp h (O.set j (mo i c (e ++ [b])))⟩ k) :
  Aw P md w ops (⟨none, .store t x y, ty, pos, af, none⟩ :: os) ⟨Ak n l, Hp h O⟩ k := by
 have hb : (c b).length = q := hc b
 have e1 : fl c (e ++ [b]) = fl c e ++ c b := by rw [Pm]; simp [fl]
 rw [Gh hi, e1] at hk
 exact T1 (f0 := 0) (cs' := c b) ok hx hy hj hi (by rw [Gl hc]; rfl) h1 (by rw [h4, hb]; exact h2) (by rw [h4, hb, hl]; exact Nat.ble_eq_true_of_le om) (by rw [h4]; unfold Et; rw [hb, List.drop_of_length_le om]; simp) hk
theorem TH {O' : List (Nat × AObj)} (e : Hp h O = Hp h O') (hk : Aw P md w ops os ⟨Ak n l, Hp h O'⟩ k) : Aw P md w ops os ⟨Ak n l, Hp h O⟩ k := by rw [e]; exact hk
theorem Zm (pre : List (Nat × AObj)) {L : List (Nat × AObj)} (ok : OK h (pre ++ L)) : Hp h (pre ++ L) = Hp h (pre ++ (0, .room) :: L) ∧ OK h (pre ++ (0, .room) :: L) := by
 obtain ⟨e, ok'⟩ := MJ (MU ok) (List.perm_middle (l₁ := pre) (a := (0, AObj.room)) (l₂ := L)).symm
 exact ⟨by rw [← e]; simp [Hp], ok'⟩
theorem dj {f : Fn} {b : Array Operand} {ca : List D} (hb : b.toList.map (opL n l) = ca) (hk : Aw P md w ops os ⟨Ak n ((d, .fn f [] ca) :: l), h⟩ k) :
  Aw P md w ops (⟨some d, .makeFunc f #[] b, ty, pos, af, none⟩ :: os) ⟨Ak n l, h⟩ k := D2 (by
 subst hb
 simp only [Bq]; exact hk)
end
theorem cR {P : Program} {h : Heap} {t : TypeId} (ht : (slD P t).isSome = true) : BC P h .eql t .snil .snil = some (.bool true) := by
 simp only [BC, CX, eqD, if_true, ht, Option.map_some]
theorem dB {P : Program} {h : Heap} {t : TypeId} {k : Nat} {es sp : List (List D)} (ht : (slD P t).isSome = true) : BC P h .eql t (.slx k es sp) .snil = some (.bool false) := by
 simp only [BC, CX, eqD, if_true, ht, Option.map_some]
theorem co {P : Program} {h : Heap} {t : TypeId} {k r : Nat} {es : List (List D)} (ht : (slD P t).isSome = true) (hne : es ≠ []) : BC P h .eql t (.sl k es r) .snil = some (.bool false) := by
 simp only [BC, CX, eqD, if_true, ht, Option.map_some, true_and, ne_eq, hne, not_false_eq_true, and_self]
section
variable {P : Program} {md : Nat → Nat} {ops : Array Oper} {os : List Oper} {k : St → Prop} {n : Nat} {l : List (Nat × D)} {h : Heap}
theorem aG {q : Nat} (d : Nat) (hd : Nat.blt d n = true) (hv : EI l d = .sl q [] 0) (h1 : Aw P md true ops os ⟨Ak n ((d, .snil) :: l), h⟩ k) (h2 : Aw P md true ops os ⟨Ak n ((d, .slx q [] []) :: l), h⟩ k) :
  Aw P md true ops os ⟨Ak n l, h⟩ k := Q9 fun K a u S => by
 have hlt : d < n := by simpa using hd
 have hvd := S.v d
 simp only [Fj, if_pos hlt, hv] at hvd
 have key : ∀ v : D, VR K (a.tmps.getD d undef) v → Sim K ⟨Ak n ((d, v) :: l), h⟩ a u := fun v hr => ⟨S.h, S.d, by rw [S.n]; simp [E6], fun i => by
  have hvi := S.v i
  simp only [Fj] at hvi ⊢
  split
  ·rename_i hi
   rw [if_pos hi] at hvi
   show VR _ _ (match Nat.beq d i with | true => v | false => EI l i)
   cases hb : Nat.beq d i with
   | true => rw [Nat.beq_eq] at hb; subst hb; exact hr
   | false => exact hvi
  ·exact .any _⟩
 generalize hg : a.tmps.getD d undef = v at hvd key
 cases hvd with
 | slz _ ad =>
  cases ad with
  | none => exact ⟨K, _, Ext.refl K, key _ .snil, h1⟩
  | some ad => exact ⟨K, _, Ext.refl K, key _ (.slxz q ad), h2⟩
 | sln => exact ⟨K, _, Ext.refl K, key _ .snil, h1⟩
 | sl b o _ _ _ cap vs hk hm hvv hc hr =>
  exact ⟨K, _, Ext.refl K, key _ (.slx b o q [] [] cap vs (by simp) (by simp) (fun i j => by simp; exact .any _) (by simp)), h2⟩
end
def eqL {α : Type} (a b : List α) : Option Unit := if a.length = b.length then some () else none
theorem EN {α : Type} {a b : List α} {u : Unit} (h : eqL a b = some u) : a.length = b.length := by
 unfold eqL at h
 split at h
 ·assumption
 ·simp at h
def ltL (i : Int) (n : Nat) : Option Unit := if 0 ≤ i ∧ i < (n : Int) then some () else none
section
variable {P : Program} {md : Nat → Nat} {ops : Array Oper} {os : List Oper} {k : St → Prop} {n : Nat} {l : List (Nat × D)} {h : Heap} {d : Nat} {t ty : TypeId} {pos : String} {af : Array Edge} {x y z : Operand}
variable {β : Type} {G : β → Prop} {O : List (Nat × AObj)}
theorem bY {α : Type} {c : α → List D} {e v : List α} {q id : Nat} {et : TypeId} {zs : List D} {f : Unit → Option β} {i : Int} (j : Nat) (ok : OK h O) (hz : id = 0 → e = []) (hO : O[j]? = some (mo id c e)) (hq : ∀ a, (c a).length = q) (h0 : Nat.blt 0 q = true)
  (hv : slc e i (e.length : Int) = some v) (hx : opL n l x = Wx q id i e.length v) (hs : slD P t = some et) (hzc : zcD P et = some zs) (hzl : zs.length = q) (hF : Ap ((ltL i e.length).bind f) G)
  (hk : Ap (f ()) G → id ≠ 0 → 0 ≤ i ∧ i < (e.length : Int) → OK h (O.set j (mo id c (e.take i.toNat))) → Aw P md true ops os ⟨Ak n l, Hp h (O.set j (mo id c (e.take i.toNat)))⟩ k) :
  Aw P md true ops (⟨none, .call ⟨.builtin .clear, #[x], #[t]⟩, ty, pos, af, none⟩ :: os) ⟨Ak n l, Hp h O⟩ k := by
 obtain ⟨_, hg, hF⟩ := BT hF
 unfold ltL at hg
 split at hg
 case isFalse => cases hg
 rename_i hi
 have hid : id ≠ 0 := fun h => by have := hz h; subst this; simp at hi; omega
 obtain ⟨_, _, _, hve⟩ := MI hv
 have hvl : v.length = e.length - i.toNat := by rw [hve, List.length_take, List.length_drop]; omega
 have hO' : O[j]? = some (id, .cells (fl c e)) := by rw [hO, Gh hid]
 have hx' : opL n l x = .msl q id (i.toNat * q) v.length := by rw [hx]; unfold Wx; rw [if_neg hid, if_pos (.inr hi.2)]
 have hle : i.toNat ≤ e.length := by omega
 have hfe : fl c e = fl c (e.take i.toNat) ++ fl c (e.drop i.toNat) := by
  conv => lhs; rw [← List.take_append_drop i.toNat e]
  unfold fl; rw [List.map_append, List.flatten_append]
 have hft : (fl c (e.take i.toNat)).length = i.toNat * q := by rw [Gl hq, List.length_take, Nat.min_eq_left hle]
 have hfd : (fl c (e.drop i.toNat)).length = v.length * q := by rw [Gl hq, List.length_drop, hvl]
 have hdl : (List.replicate v.length zs).flatten.length = v.length * q := by simp [hzl]
 have hput : Et (fl c e) (i.toNat * q) (List.replicate v.length zs).flatten = fl c (e.take i.toNat) ++ (List.replicate v.length zs).flatten := by
  unfold Et
  rw [hdl, hfe, ← hft, List.take_left, List.drop_eq_nil_of_le (by rw [List.length_append, hft, hfd]; omega), List.append_nil]
 obtain ⟨e3, e4⟩ := Jk (y := .cells (fl c (e.take i.toNat) ++ (List.replicate v.length zs).flatten)) j ok hO' hid
 refine WT ?_
 simp only [Bq, Ep, List.map_cons, List.map_nil, hx', MT, hs, hzc, DU j ok hO' hid]
 refine ⟨hzl, by omega, by rw [Nat.blt_eq] at h0; exact h0, by rw [hfe, List.length_append, hft, hfd]; omega, ?_⟩
 rw [hput, e3]
 have hjl : j < O.length := (List.getElem?_eq_some_iff.1 hO).1
 refine WN (id := id) (cs := fl c (e.take i.toNat)) (ds := (List.replicate v.length zs).flatten) j e4 (by rw [List.getElem?_set_self hjl]) hid fun ok' => ?_
 rw [List.set_set] at ok' ⊢
 have hm : ((id, .cells (fl c (e.take i.toNat))) : Nat × AObj) = mo id c (e.take i.toNat) := (Gh hid).symm
 rw [hm] at ok' ⊢
 exact hk hF hid hi ok'
theorem dr {α : Type} {q id N : Nat} {e : List α} {i : Int} {w : Bool} {et : TypeId} (hid : id ≠ 0) (hx : opL n l x = .msl q id 0 N) (hy : opL n l y = .int .i64 i) (hs : slD P t = some et) (hq : szD P et = some q) (h0 : 0 ≤ i) (h1 : i ≤ (N : Int)) (he : (e.length : Int) = i)
  (hk : Aw P md w ops os ⟨Ak n ((d, As q id e) :: l), h⟩ k) : Aw P md w ops (⟨some d, .slice t x none (some y) none, ty, pos, af, none⟩ :: os) ⟨Ak n l, h⟩ k := D2 (by
 have e1 : i.toNat = e.length := by omega
 simp only [Bq, Option.map_none, Option.map_some, hx, hy, Hm, hs, hq, if_true, Cw]
 rw [if_pos om]
 rw [EO hid] at hk
 simp only [Br]
 simpa [e1] using hk)
end
end Go.Proofs.YtilhbalhkljanaaGreatDoor
