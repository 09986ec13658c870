/- Own rows whose last element holds a right to append. No condition. -/
import Derived.Test.YtocfjohangcajaaDoorEng28
set_option linter.unusedSimpArgs false
set_option linter.unusedVariables false
namespace Go.Proofs.YtocfjohangcajaaDoor

/-- Elements with their rights: the last one has one; none: nil stands there yet. -/
def tagR {α : Type} (o : Option Nat) : List α → List (α × Option Nat)
  | [] => []
  | [x] => [(x, o)]
  | x :: y :: l => (x, some 0) :: tagR o (y :: l)
/-- The last one. -/
def lst {α : Type} (e : List α) (i : Int) : Option α := if i + 1 = (e.length : Int) then idx e i else none

section
variable {α : Type}
theorem tagR_snoc (o : Option Nat) : ∀ (e : List α) (x : α), tagR o (e ++ [x]) = e.map (fun a => (a, some 0)) ++ [(x, o)]
  | [], x => rfl
  | [y], x => rfl
  | y :: z :: e, x => by
    have := tagR_snoc o (z :: e) x
    simp only [List.cons_append, tagR, List.map_cons] at this ⊢
    rw [this]
theorem tagR_zero : ∀ e : List α, tagR (some 0) e = e.map (fun a => (a, some 0))
  | [] => rfl
  | [y] => rfl
  | y :: z :: e => by
    have := tagR_zero (z :: e)
    simp only [tagR, List.map_cons] at this ⊢
    rw [this]
theorem tagR_len (o : Option Nat) : ∀ e : List α, (tagR o e).length = e.length
  | [] => rfl
  | [y] => rfl
  | y :: z :: e => by
    have := tagR_len o (z :: e)
    simp only [tagR, List.length_cons] at this ⊢
    omega
theorem lst_spec {e : List α} {i : Int} {a : α} (h : lst e i = some a) : ∃ m, e = m ++ [a] ∧ i = (m.length : Int) ∧ idx e i = some a := by
  unfold lst at h
  split at h
  · rename_i hi
    obtain ⟨h1, h2, h3⟩ := idx_get h
    have hne : e ≠ [] := fun h0 => by subst h0; simp at h2
    have hd := List.dropLast_concat_getLast hne
    have hl : e.dropLast.length = i.toNat := by simp; omega
    have ha : e.getLast hne = a := by
      have h4 : (e.dropLast ++ [e.getLast hne])[i.toNat]? = some (e.getLast hne) := by
        rw [List.getElem?_append_right (by omega), hl]; simp
      rw [hd, h2] at h4; injection h4 with h4; exact h4.symm
    refine ⟨e.dropLast, by rw [← ha]; exact hd.symm, by omega, h⟩
  · simp at h
theorem mslO_eq {q id : Nat} {β : Type} {e : List α} {f : List β} (h : e.length = f.length) : mslO q id e = mslO q id f := by
  cases id with
  | zero => rfl
  | succ i => simp only [mslO, h]

/-- Own objects, one of them with cells lessened. -/
theorem WO.setW {i : Nat} {cs cs' : List D} (hw : WdC cs cs') : ∀ {O : List (Nat × AObj)} {j : Nat}, O[j]? = some (i, .cells cs) → WO O (O.set j (i, .cells cs'))
  | [], j, h => by simp at h
  | p :: O, 0, h => by
    simp at h; subst h
    exact .weak hw (.refl O)
  | p :: O, j + 1, h => .keep (WO.setW hw (by simpa using h))
end

section
variable {P : Program} {md : Nat → Nat} {w : Bool} {ops : Array Oper} {os : List Oper} {k : St → Prop} {n : Nat} {l : List (Nat × D)} {h : Heap} {d : Nat} {t ty : TypeId} {pos : String} {af : Array Edge} {x y z : Operand}
variable {β : Type} {G : β → Prop} {O : List (Nat × AObj)} {α : Type} {c : α × Option Nat → List D} {e : List α} {q id r : Nat}

theorem S_nilR {α : Type} (c : α × Option Nat → List D) (ok : OK h O) (hk : OK h (mo 0 c (tagR (some 0) []) :: (0, .room) :: O) → seqQ P md w ops os ⟨mkSl n l, Hp h (mo 0 c (tagR (some 0) []) :: (0, .room) :: O)⟩ k) : seqQ P md w ops os ⟨mkSl n l, Hp h O⟩ k := by
  have := hk (OK_nil (OK_nil ok))
  simpa [mo, Hp] using this
theorem S_room0 (ok : OK h O) (hk : OK h ((0, .room) :: O) → seqQ P md w ops os ⟨mkSl n l, Hp h ((0, .room) :: O)⟩ k) : seqQ P md w ops os ⟨mkSl n l, Hp h O⟩ k := by
  have := hk (OK_nil ok)
  simpa [Hp] using this
theorem S_ixR {et : TypeId} {K : IntKind} {i : Int} {f : α → Option β} (hz : id = 0 → e = []) (hx : opL n l x = mslO q id e) (hy : opL n l y = .int K i) (hs : slD P t = some et) (hq : szD P et = some q)
    (hF : OptP ((lst e i).bind f) G) (hk : ∀ a, lst e i = some a → OptP (f a) G → seqQ P md w ops os ⟨mkSl n ((d, .ptr id (i.toNat * q)) :: l), h⟩ k) : seqQ P md w ops (⟨some d, .indexAddr t x y, ty, pos, af, none⟩ :: os) ⟨mkSl n l, h⟩ k := by
  obtain ⟨a, ha, hFa⟩ := F_bind hF
  obtain ⟨m, _, _, hi⟩ := lst_spec ha
  exact S_ixO (f := fun a => f a) hz hx hy hs hq (by rw [hi]; exact hFa) fun b hb hF' => by
    rw [hi] at hb; injection hb with hb; subst hb; exact hk a ha hF'
theorem nz_lst {i : Int} {a : α} (hz : id = 0 → e = []) (hi : lst e i = some a) : id ≠ 0 := fun h => by
  obtain ⟨m, h1, _, _⟩ := lst_spec hi
  rw [hz h] at h1; simp at h1
theorem S_ldR {off f0 j : Nat} {i : Int} {a : α} {v : D} (ok : OK h O) (hm : md d = 0) (hz : id = 0 → e = []) (hx : opL n l x = .ptr id off) (hj : O[j]? = some (mo id c (tagR (some r) e))) (hc : ∀ a, (c a).length = q)
    (hi : lst e i = some a) (ho : off = i.toNat * q + f0) (hle : Nat.ble f0 q = true) (hp : partD P t ((c (a, some r)).drop f0) = some v)
    (hk : seqQ P md w ops os ⟨mkSl n ((d, v) :: l), Hp h O⟩ k) : seqQ P md w ops (⟨some d, .load t x, ty, pos, af, none⟩ :: os) ⟨mkSl n l, Hp h O⟩ k := by
  obtain ⟨m, h1, h2, h3⟩ := lst_spec hi
  subst h1
  rw [tagR_snoc] at hj
  refine S_ldO (e := m.map (fun a => (a, some 0)) ++ [(a, some r)]) (i := i) (a := (a, some r)) ok hm (fun h0 => by have := hz h0; simp at this) hx hj hc ?_ ho hle hp hk
  unfold idx
  rw [if_pos (by omega), h2, Int.toNat_natCast, List.getElem?_append_right (by simp)]
  simp
theorem S_stR {off f0 j r' : Nat} {i : Int} {a b : α} {v : D} (ok : OK h O) (hz : id = 0 → e = []) (hx : opL n l x = .ptr id off) (hy : opL n l y = v) (hj : O[j]? = some (mo id c (tagR (some r) e))) (hc : ∀ a, (c a).length = q)
    (hi : lst e i = some a) (ho : off = i.toNat * q + f0) (h1 : v.lay = true) (h2 : szD P t = some v.cells.length) (hle : Nat.ble (f0 + v.cells.length) q = true) (hb : putAt (c (a, some r)) f0 v.cells = c (b, some r'))
    (hk : (id = 0 → e.set i.toNat b = []) → OK h (O.set j (mo id c (tagR (some r') (e.set i.toNat b)))) → seqQ P md w ops os ⟨mkSl n l, Hp h (O.set j (mo id c (tagR (some r') (e.set i.toNat b))))⟩ k) :
    seqQ P md w ops (⟨none, .store t x y, ty, pos, af, none⟩ :: os) ⟨mkSl n l, Hp h O⟩ k := by
  obtain ⟨m, g1, g2, g3⟩ := lst_spec hi
  subst g1
  rw [tagR_snoc] at hj
  have hix : idx (m.map (fun a => (a, some 0)) ++ [(a, some r)]) i = some (a, some r) := by
    unfold idx
    rw [if_pos (by omega), g2, Int.toNat_natCast, List.getElem?_append_right (by simp)]
    simp
  have hset : (m.map (fun a => (a, some 0)) ++ [(a, some r)]).set i.toNat (b, some r') = tagR (some r') ((m ++ [a]).set i.toNat b) := by
    have h5 : i.toNat = m.length := by omega
    have h6 : (m ++ [a]).set i.toNat b = m ++ [b] := by rw [h5, List.set_append_right _ _ (Nat.le_refl _)]; simp
    rw [h6, tagR_snoc, h5, List.set_append_right _ _ (by simp)]; simp
  refine S_stO (i := i) ok (fun h0 => by have := hz h0; simp at this) hx hy hj hc hix ho h1 h2 hle hb fun h7 ok' => ?_
  rw [hset] at ok' ⊢
  exact hk (fun h0 => by have := hz h0; simp at this) ok'

/-- The last one's right is given up. -/
theorem lessR {j : Nat} (ok : OK h O) (hz : id = 0 → e = []) (hj : O[j]? = some (mo id c (tagR (some r) e))) (hw : ∀ a, WdC (c (a, some r)) (c (a, some 0))) :
    OK h (O.set j (mo id c (tagR (some 0) e))) ∧ WS ⟨mkSl n l, Hp h O⟩ ⟨mkSl n l, Hp h (O.set j (mo id c (tagR (some 0) e)))⟩ := by
  by_cases h0 : id = 0
  · subst h0
    have e1 := hz rfl
    subst e1
    have hset : O.set j (0, .room) = O := by
      obtain ⟨hlt, he⟩ := List.getElem?_eq_some_iff.1 hj
      have he' : O[j] = (0, .room) := he
      rw [← he']; exact List.set_getElem_self hlt
    show OK h (O.set j (0, .room)) ∧ WS _ ⟨mkSl n l, Hp h (O.set j (0, .room))⟩
    rw [hset]; exact ⟨ok, .refl _⟩
  · have hcs : WdC (fl c (tagR (some r) e)) (fl c (tagR (some 0) e)) := by
      rcases List.eq_nil_or_concat e with h1 | ⟨m, a, h1⟩
      · subst h1; exact .refl _
      · subst h1
        rw [List.concat_eq_append, tagR_snoc, tagR_snoc]
        simp only [fl, List.map_append, List.flatten_append, List.map_cons, List.map_nil, List.flatten_cons, List.flatten_nil, List.append_nil]
        exact (WdC.refl _).app (hw a)
    rw [mo_pos h0] at hj ⊢
    have hwo := WO.setW hcs hj
    exact ⟨(hwo.spec ok).1, ⟨rfl, fun _ => .refl _, (hwo.spec ok).2.2⟩⟩

theorem S_appR {j off kk B : Nat} {zs : List D} {x0 : α} {u : TypeId} {f : List α → Option β} (ok : OK h O) (hz : id = 0 → e = []) (hm : md d = 1) (hx : opL n l x = mslO q id e) (hy : opL n l y = .sl q [c (x0, none)] 0) (hc : ∀ a, (c a).length = q)
    (hj : O[j]? = some (mo id c (tagR (some r) e))) (hw : ∀ a, WdC (c (a, some r)) (c (a, some 0))) (hn : (c (x0, none)).getD off .any = .snil) (hlt : Nat.blt off q = true) (hC : ∀ r, (c (x0, none)).set off (.sl kk [] r) = c (x0, some r))
    (he : elD P t = some (q, B, zs)) (hu : notIntD P u = true) (hF : OptP ((app B e [x0]).bind f) G)
    (hk : ∀ i r, i ≠ 0 → r ≠ 0 → OK h ((r, .room) :: O.set j (mo i c (tagR (some r) (e ++ [x0])))) → OptP (f (e ++ [x0])) G → seqQ P md true ops os ⟨mkSl n ((d, mslO q i (e ++ [x0])) :: l), Hp h ((r, .room) :: O.set j (mo i c (tagR (some r) (e ++ [x0]))))⟩ k) :
    seqQ P md true ops (⟨some d, .call ⟨.builtin .append, #[x, y], #[t, u]⟩, ty, pos, af, none⟩ :: os) ⟨mkSl n l, Hp h O⟩ k := by
  obtain ⟨ok1, hws⟩ := lessR (n := n) (l := l) ok hz hj hw
  refine S_ws hws ?_
  obtain ⟨v, hv, hF⟩ := F_bind hF
  have hv2 : v = e ++ [x0] ∧ app B (tagR (some 0) e) [(x0, none)] = some (tagR (some 0) e ++ [(x0, none)]) := by
    unfold app at hv ⊢
    split at hv
    · rename_i hcc
      injection hv with hv
      refine ⟨hv.symm, if_pos ?_⟩
      rw [tagR_len]; exact hcc
    · simp at hv
  obtain ⟨rfl, happ⟩ := hv2
  have hlj : j < O.length := by
    rcases Nat.lt_or_ge j O.length with h | h
    · exact h
    · rw [List.getElem?_eq_none h] at hj; simp at hj
  refine S_appO (e := tagR (some 0) e) (c := c) (q := q) (id := id) (M := [(x0, none)]) (f := fun _ => f (e ++ [x0])) (j := j) ok1 (fun h0 => by rw [hz h0]; rfl) hm (by rw [hx]; exact mslO_eq (tagR_len _ _).symm) (by rw [hy]; simp [srcD]) hc (by simp [hlj]) he hu (by rw [happ]; exact hF) fun i hi ok2 hF2 => ?_
  have hi0 : i ≠ 0 := fun h0 => by have := hi h0; simp at this
  rw [List.set_set] at ok2 ⊢
  have hfl : fl c (tagR (some 0) e ++ [(x0, none)]) = fl c (tagR (some 0) e) ++ c (x0, none) := by rw [fl_app]; simp [fl]
  have hlen : (fl c (tagR (some 0) e)).length = e.length * q := by rw [fl_length hc, tagR_len]
  have hoff : off < q := by simpa using hlt
  rw [mo_pos hi0] at ok2
  have hmsl : mslO q i (tagR (some 0) e ++ [(x0, none)]) = mslO q i (e ++ [x0]) := mslO_eq (by simp [tagR_len])
  rw [hmsl, mo_pos hi0]
  refine S_ghostO (i := i) (cs := fl c (tagR (some 0) e ++ [(x0, none)])) j (e.length * q + off) kk (fun r => fl c (tagR (some r) (e ++ [x0]))) ok2 (by simp [hlj]) hi0 ?_ (fun r => ?_) fun r hr ok3 => ?_
  · rw [hfl, List.getD_eq_getElem?_getD, List.getElem?_append_right (by omega), hlen, Nat.add_sub_cancel_left, ← List.getD_eq_getElem?_getD]; exact hn
  · rw [hfl, List.set_append_right _ _ (by omega), hlen, Nat.add_sub_cancel_left, hC, tagR_snoc, fl_app, tagR_zero]; simp [fl]
  · rw [List.set_set] at ok3 ⊢
    have := hk i r hi0 hr
    rw [mo_pos hi0] at this
    exact this ok3 hF2

/-- It is left as it is. -/
theorem S_frzR {c1 : α → List D} (j d : Nat) (ok : OK h O) (hz : id = 0 → e = []) (hv : look l d = mslO q id e) (hO : O[j]? = some (mo id c (tagR (some r) e))) (hc : ∀ a, (c a).length = q) (hw : ∀ a, WdC (c (a, some r)) (c (a, some 0))) (h1 : ∀ a, c (a, some 0) = c1 a)
    (hk : OK h (O.set j (0, .room)) → seqQ P md true ops os ⟨mkSl n ((d, .sl q (e.map c1) 0) :: l), Hp h (O.set j (0, .room))⟩ k) : seqQ P md true ops os ⟨mkSl n l, Hp h O⟩ k := by
  obtain ⟨ok1, hws⟩ := lessR (n := n) (l := l) ok hz hO hw
  refine S_ws hws ?_
  have hlj : j < O.length := by
    rcases Nat.lt_or_ge j O.length with h | h
    · exact h
    · rw [List.getElem?_eq_none h] at hO; simp at hO
  refine S_frzO j d ok1 (e := tagR (some 0) e) (fun h0 => by rw [hz h0]; rfl) (by rw [hv]; exact mslO_eq (tagR_len _ _).symm) (by simp [hlj]) hc fun ok2 => ?_
  rw [List.set_set] at ok2 ⊢
  have hm : (tagR (some 0) e).map c = e.map c1 := by
    rw [tagR_zero, List.map_map]; exact List.map_congr_left fun a _ => h1 a
  rw [hm]; exact hk ok2
end
end Go.Proofs.YtocfjohangcajaaDoor
