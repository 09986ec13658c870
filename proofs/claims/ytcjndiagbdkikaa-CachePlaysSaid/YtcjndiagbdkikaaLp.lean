/- CachePlays: the plain law. No condition. -/
import Derived.Test.YtcjndiagbdkikaaWkP
import Derived.Test.YtcjndiagbdkikaaPl1
set_option linter.unusedSimpArgs false
set_option linter.unusedVariables false
namespace Go.Proofs.Ytcjndiagbdkikaa

def toE (e : I.Ent) : T_lecternref16_Entry := ⟨e.key, e.val, e.dirty, e.pins⟩
def toR (n : Int) (L : List I.Ent) : T_lecternref16_Cache := ⟨n, L.map toE⟩

theorem same_refl (l : List Int) (hl : l.length < 1000000000) : F_lecternref05_SameInts l l = some true := by
  unfold F_lecternref05_SameInts
  simp only [bne_self_eq_false, cond_false, letJ]
  obtain ⟨o, h1, h2⟩ := iter_spec (b := F_lecternref05_SameInts_l0 l l) (fun i x => x = (i : Int)) (fun o => o = .inl ()) l.length (x0 := (0 : Int)) rfl
    (fun i x rec hi hx => .inl ⟨((i + 1 : Nat) : Int), by
      subst hx
      unfold F_lecternref05_SameInts_l0
      rw [decide_eq_true (by omega), cond_true, idx_some hi, Option.bind_some, Option.bind_some, bne_self_eq_false, cond_false, w64 (by omega) (by omega)]; rfl, rfl⟩)
    (fun x rec hx => ⟨_, by
      subst hx
      unfold F_lecternref05_SameInts_l0
      rw [decide_eq_false (by omega), cond_false], rfl⟩) (n := FUEL) (by unfold FUEL; omega)
  rw [h1, h2]; rfl

/-! lists parted at an element -/
theorem idx_mid {α : Type} (A B : List α) (b : α) : idx (A ++ b :: B) (A.length : Int) = some b := by
  rw [idx_some (by simp)]; simp
theorem set_mid {α : Type} (A B : List α) (b b' : α) : (A ++ b :: B).set (Int.toNat (A.length : Int)) b' = A ++ b' :: B := by simp
theorem fnd_split {k : Int} {L : List I.Ent} {e : I.Ent} (h : I.fnd k L = some e) : ∃ l1 l2, L = l1 ++ e :: l2 ∧ e.key = k ∧ ∀ x ∈ l1, x.key ≠ k := by
  obtain ⟨h1, xs, ys, h2, h3⟩ := List.find?_eq_some_iff_append.1 h
  exact ⟨xs, ys, h2, by simpa using h1, fun x hx => by simpa using h3 x hx⟩
theorem fnd_no {k : Int} {L : List I.Ent} (h : I.fnd k L = none) : ∀ x ∈ L, x.key ≠ k := fun x hx e => by
  have := List.find?_eq_none.1 h x hx
  simp [e] at this
theorem rem_mid {k : Int} {l1 l2 : List I.Ent} {e : I.Ent} (he : e.key = k) (h1 : ∀ x ∈ l1, x.key ≠ k) : I.rem k (l1 ++ e :: l2) = l1 ++ l2 := by
  unfold I.rem
  rw [List.eraseP_append_right _ (fun x hx => by simpa using h1 x hx), List.eraseP_cons_of_pos (by simpa using he)]
theorem upk_mid {k : Int} {f : I.Ent → I.Ent} {l1 l2 : List I.Ent} {e : I.Ent} (he : e.key = k) (nd : ((l1 ++ e :: l2).map I.Ent.key).Nodup) : I.upk k f (l1 ++ e :: l2) = l1 ++ f e :: l2 := by
  have hk : ∀ x ∈ l1 ++ l2, x.key ≠ k := by
    intro x hx hxk
    have hp : ((l1 ++ e :: l2).map I.Ent.key).Perm (e.key :: (l1 ++ l2).map I.Ent.key) := by
      simp
    have := (List.nodup_cons.1 ((hp.nodup_iff).1 nd)).1
    exact this (by rw [he, ← hxk]; exact List.mem_map_of_mem hx)
  unfold I.upk
  rw [List.map_append, List.map_cons, if_pos he]
  congr 1
  · exact (List.map_congr_left fun x hx => by rw [if_neg (hk x (by simp [hx]))]).trans (List.map_id' _)
  · congr 1
    exact (List.map_congr_left fun x hx => by rw [if_neg (hk x (by simp [hx]))]).trans (List.map_id' _)

/-! the reference's functions -/
theorem find_some {n k : Int} {l1 l2 : List I.Ent} {e : I.Ent} (hl : (l1 ++ e :: l2).length ≤ 100000) (he : e.key = k) (h1 : ∀ x ∈ l1, x.key ≠ k) : F_lecternref16_Cache_find (toR n (l1 ++ e :: l2)) k = some (l1.length : Int) := by
  unfold F_lecternref16_Cache_find
  simp only [letJ]
  have hlen : l1.length < (l1 ++ e :: l2).length := by simp
  obtain ⟨o, g1, g2⟩ := iter_spec (b := F_lecternref16_Cache_find_l0 (toR n (l1 ++ e :: l2)) k) (fun i x => x = (i : Int)) (fun o => o = .inr (l1.length : Int)) l1.length (x0 := (0 : Int)) rfl
    (fun i x rec hi hx => .inl ⟨((i + 1 : Nat) : Int), by
      subst hx
      unfold F_lecternref16_Cache_find_l0 toR
      have hi' : i < ((l1 ++ e :: l2).map toE).length := by simp; omega
      have hg : ((l1 ++ e :: l2).map toE)[i].Key = l1[i].key := by simp [List.getElem_append_left, hi, toE]
      rw [decide_eq_true (by simp; omega), cond_true, idx_some hi', Option.bind_some, hg]
      have hb : (l1[i].key == k) = false := by simpa using h1 _ (List.getElem_mem hi)
      rw [hb, cond_false, w64 (by omega) (by omega)]; rfl, rfl⟩)
    (fun x rec hx => ⟨_, by
      subst hx
      unfold F_lecternref16_Cache_find_l0 toR
      have hm : (l1 ++ e :: l2).map toE = l1.map toE ++ toE e :: l2.map toE := by simp
      have hi := idx_mid (l1.map toE) (l2.map toE) (toE e)
      rw [List.length_map] at hi
      rw [decide_eq_true (by simp; omega), cond_true, hm, hi, Option.bind_some]
      have hb : ((toE e).Key == k) = true := by simpa [toE] using he
      rw [hb, cond_true], rfl⟩) (n := FUEL) (by unfold FUEL; omega)
  rw [g1, g2]; rfl
theorem find_no {n k : Int} {L : List I.Ent} (hl : L.length ≤ 100000) (h1 : ∀ x ∈ L, x.key ≠ k) : F_lecternref16_Cache_find (toR n L) k = some (-1) := by
  unfold F_lecternref16_Cache_find
  simp only [letJ]
  obtain ⟨o, g1, g2⟩ := iter_spec (b := F_lecternref16_Cache_find_l0 (toR n L) k) (fun i x => x = (i : Int)) (fun o => o = .inl ()) L.length (x0 := (0 : Int)) rfl
    (fun i x rec hi hx => .inl ⟨((i + 1 : Nat) : Int), by
      subst hx
      unfold F_lecternref16_Cache_find_l0 toR
      have hi' : i < (L.map toE).length := by simpa using hi
      have hg : (L.map toE)[i].Key = L[i].key := by simp [toE]
      rw [decide_eq_true (by simp; omega), cond_true, idx_some hi', Option.bind_some, hg]
      have hb : (L[i].key == k) = false := by simpa using h1 _ (List.getElem_mem hi)
      rw [hb, cond_false, w64 (by omega) (by omega)]; rfl, rfl⟩)
    (fun x rec hx => ⟨_, by
      subst hx
      unfold F_lecternref16_Cache_find_l0 toR
      rw [decide_eq_false (by simp), cond_false], rfl⟩) (n := FUEL) (by unfold FUEL; omega)
  rw [g1, g2]; rfl
theorem out_mid {n : Int} {A B : List T_lecternref16_Entry} {b : T_lecternref16_Entry} (hl : (A ++ b :: B).length ≤ 100000) : F_lecternref16_Cache_out ⟨n, A ++ b :: B⟩ (A.length : Int) = some ⟨n, A ++ B⟩ := by
  have hl' : A.length + (B.length + 1) ≤ 100000 := by simpa using hl
  unfold F_lecternref16_Cache_out
  have s1 : slc (A ++ b :: B) (0 : Int) (A.length : Int) = some A := by
    unfold slc; rw [if_pos (by simp; omega)]; simp
  have s2 : slc (A ++ b :: B) ((A.length : Int) + 1) ((A ++ b :: B).length : Int) = some B := by
    unfold slc; rw [if_pos (by simp; omega)]
    have e1 : ((A.length : Int) + 1).toNat = A.length + 1 := by omega
    have e2 : (((A ++ b :: B).length : Nat) : Int).toNat - (A.length + 1) = B.length := by simp; omega
    rw [e1, e2]; simp
  simp only [s1, Option.bind_some, w64 (x := (A.length : Int) + 1) (by omega) (by omega), s2]
  rw [app_some (by simp; omega) (by simp; omega), Option.bind_some, app_some (by simp; omega) (by simp; omega), Option.bind_some]
  simp
theorem used_mid {n : Int} {A B : List T_lecternref16_Entry} {b : T_lecternref16_Entry} (hl : (A ++ b :: B).length ≤ 100000) : F_lecternref16_Cache_used ⟨n, A ++ b :: B⟩ (A.length : Int) = some ⟨n, A ++ B ++ [b]⟩ := by
  have hl' : A.length + (B.length + 1) ≤ 100000 := by simpa using hl
  unfold F_lecternref16_Cache_used
  simp only [idx_mid, Option.bind_some, out_mid hl]
  rw [app_some (by simp; omega) (by simp; omega), Option.bind_some]

theorem keys_eq {n : Int} {L : List I.Ent} (all : Bool) (hl : L.length ≤ 100000) : F_lecternref16_Cache_Keys (toR n L) all = some (I.keysL all L) := by
  unfold F_lecternref16_Cache_Keys
  simp only [letJ]
  obtain ⟨o, g1, g2⟩ := iter_spec (b := F_lecternref16_Cache_Keys_l0 (toR n L) all) (fun i x => x = (I.keysL all (L.take i), (i : Int))) (fun o => o = I.keysL all L) L.length (x0 := (([] : List Int), (0 : Int))) (by simp [I.keysL])
    (fun i x rec hi hx => .inl ⟨(I.keysL all (L.take (i + 1)), ((i + 1 : Nat) : Int)), by
      subst hx
      have hk : (I.keysL all (L.take i)).length ≤ 100000 := by
        unfold I.keysL; rw [List.length_map]
        exact Nat.le_trans (List.length_filter_le _ _) (by simp; omega)
      unfold F_lecternref16_Cache_Keys_l0 toR
      have hi' : i < (L.map toE).length := by simpa using hi
      have hg : (L.map toE)[i] = toE L[i] := by simp
      simp only [letJ]
      rw [decide_eq_true (by simp; omega), cond_true, idx_some hi', Option.bind_some, hg, w64 (by omega) (by omega)]
      have ht : L.take (i + 1) = L.take i ++ [L[i]] := by rw [List.take_add_one, List.getElem?_eq_getElem hi]; rfl
      have hkl : I.keysL all (L.take (i + 1)) = I.keysL all (L.take i) ++ (if (all || L[i].dirty) = true then [L[i].key] else []) := by
        rw [ht]; unfold I.keysL
        rw [List.filter_append, List.map_append]; congr 1
        by_cases hb : (all || L[i].dirty) = true <;> simp [hb]
      rw [hkl]
      by_cases hb : (all || L[i].dirty) = true
      · have hb' : (all || (toE L[i]).Dirty) = true := hb
        rw [hb', cond_true, app_some (by simp; omega) (by simp; omega), Option.bind_some, if_pos hb]; rfl
      · have hb0 : (all || L[i].dirty) = false := Bool.eq_false_iff.2 hb
        have hb' : (all || (toE L[i]).Dirty) = false := hb0
        rw [hb', cond_false, if_neg hb, List.append_nil]; rfl, rfl⟩)
    (fun x rec hx => ⟨_, by
      subst hx
      unfold F_lecternref16_Cache_Keys_l0 toR
      simp only [letJ]
      rw [decide_eq_false (by simp), cond_false, List.take_length], rfl⟩) (n := FUEL) (by unfold FUEL; omega)
  rw [g1, g2]; rfl

/-- What holds of the entries behind i steps. -/
structure Ok (i : Nat) (n : Int) (L : List I.Ent) : Prop where
  nd : (L.map I.Ent.key).Nodup
  len : (L.length : Int) ≤ n
  pins : ∀ e ∈ L, 0 ≤ e.pins ∧ e.pins ≤ i

theorem Ok.small {i : Nat} {n : Int} {L : List I.Ent} (h : Ok i n L) (hn : n ≤ 65536) : L.length ≤ 65536 := by have := h.len; omega
theorem Ok.step {i : Nat} {n : Int} {L : List I.Ent} (h : Ok i n L) : Ok (i + 1) n L := ⟨h.nd, h.len, fun e he => ⟨(h.pins e he).1, by have := (h.pins e he).2; omega⟩⟩
theorem Ok.back {i : Nat} {n : Int} {l1 l2 : List I.Ent} {e e' : I.Ent} (h : Ok i n (l1 ++ e :: l2)) (hk : e'.key = e.key) (hp : 0 ≤ e'.pins ∧ e'.pins ≤ (i + 1 : Nat)) : Ok (i + 1) n (l1 ++ l2 ++ [e']) := by
  have hp1 : ((l1 ++ l2 ++ [e']).map I.Ent.key).Perm ((l1 ++ e :: l2).map I.Ent.key) := by
    have : (l1 ++ l2 ++ [e]).Perm (l1 ++ e :: l2) := by
      refine (List.perm_append_comm (l₁ := l1 ++ l2) (l₂ := [e])).trans ?_
      exact (List.perm_middle (a := e) (l₁ := l1) (l₂ := l2)).symm
    have := this.map I.Ent.key
    simp only [List.map_append, List.map_cons, List.map_nil, hk] at this ⊢
    exact this
  refine ⟨(hp1.nodup_iff).2 h.nd, by have := h.len; simp at this ⊢; omega, fun x hx => ?_⟩
  simp only [List.mem_append, List.mem_singleton] at hx
  rcases hx with hx | rfl
  · have := h.pins x (by rcases hx with hx | hx <;> simp [hx]); omega
  · exact hp
theorem Ok.put {i : Nat} {n : Int} {l1 l2 : List I.Ent} {e e' : I.Ent} (h : Ok i n (l1 ++ e :: l2)) (hk : e'.key = e.key) (hp : 0 ≤ e'.pins ∧ e'.pins ≤ (i + 1 : Nat)) : Ok (i + 1) n (l1 ++ e' :: l2) := by
  refine ⟨by have := h.nd; simpa [hk] using this, by have := h.len; simpa using this, fun x hx => ?_⟩
  simp only [List.mem_append, List.mem_cons] at hx
  rcases hx with hx | rfl | hx
  · have := h.pins x (by simp [hx]); omega
  · exact hp
  · have := h.pins x (by simp [hx]); omega
theorem Ok.out {i : Nat} {n : Int} {l1 l2 : List I.Ent} {e : I.Ent} (h : Ok i n (l1 ++ e :: l2)) : Ok (i + 1) n (l1 ++ l2) := by
  refine ⟨h.nd.sublist (((List.Sublist.refl l1).append (List.sublist_cons_self e l2)).map _), by have := h.len; simp at this ⊢; omega, fun x hx => ?_⟩
  have := h.pins x (by simp only [List.mem_append, List.mem_cons] at hx ⊢; rcases hx with hx | hx <;> simp [hx]); omega

theorem get_eq {i : Nat} {n k : Int} {L : List I.Ent} (h : Ok i n L) (hn : n ≤ 65536) : F_lecternref16_Cache_Get (toR n L) k = some ((((I.fnd k L).map I.Ent.val).getD I.vz, (I.fnd k L).isSome), toR n (I.usd k L)) ∧ Ok (i + 1) n (I.usd k L) := by
  have hs := h.small hn
  unfold F_lecternref16_Cache_Get I.usd
  cases hf : I.fnd k L with
  | none =>
    rw [find_no (by omega) (fnd_no hf), Option.bind_some, decide_eq_true (by decide), cond_true]
    exact ⟨rfl, h.step⟩
  | some e =>
    obtain ⟨l1, l2, rfl, he, h1⟩ := fnd_split hf
    rw [find_some (by omega) he h1, Option.bind_some, decide_eq_false (by omega), cond_false]
    have hm : toR n (l1 ++ e :: l2) = ⟨n, l1.map toE ++ toE e :: l2.map toE⟩ := by simp [toR]
    have hl : (l1.length : Int) = ((l1.map toE).length : Int) := by simp
    rw [hm, hl, idx_mid, Option.bind_some, used_mid (by simpa using (by omega : (l1 ++ e :: l2).length ≤ 100000)), Option.bind_some]
    simp only [rem_mid he h1]
    exact ⟨by simp [toR, toE], h.back rfl (by have := h.pins e (by simp); omega)⟩
theorem drop_eq {i : Nat} {n k : Int} {L : List I.Ent} (h : Ok i n L) (hn : n ≤ 65536) : F_lecternref16_Cache_Drop (toR n L) k = some (I.dropB k L, toR n (if I.dropB k L then I.rem k L else L)) ∧ Ok (i + 1) n (if I.dropB k L then I.rem k L else L) := by
  have hs := h.small hn
  unfold F_lecternref16_Cache_Drop I.dropB
  simp only [letJ]
  cases hf : I.fnd k L with
  | none =>
    rw [find_no (by omega) (fnd_no hf), Option.bind_some, decide_eq_true (by decide), cond_true, cond_true]
    exact ⟨rfl, h.step⟩
  | some e =>
    obtain ⟨l1, l2, rfl, he, h1⟩ := fnd_split hf
    rw [find_some (by omega) he h1, Option.bind_some, decide_eq_false (by omega), cond_false]
    have hm : toR n (l1 ++ e :: l2) = ⟨n, l1.map toE ++ toE e :: l2.map toE⟩ := by simp [toR]
    have hl : (l1.length : Int) = ((l1.map toE).length : Int) := by simp
    rw [hm, hl, idx_mid, Option.bind_some]
    by_cases hp : 0 < e.pins
    · have hb : decide ((0 : Int) < (toE e).Pins) = true := decide_eq_true hp
      rw [hb, cond_true]
      simp only [decide_eq_true hp, Bool.not_true]
      exact ⟨by simp [toR], by simpa using h.step⟩
    · have hb : decide ((0 : Int) < (toE e).Pins) = false := decide_eq_false hp
      rw [hb, cond_false, out_mid (by simpa using (by omega : (l1 ++ e :: l2).length ≤ 100000)), Option.bind_some]
      simp only [decide_eq_false hp, Bool.not_false, if_true, rem_mid he h1]
      exact ⟨by simp [toR], h.out⟩
theorem pin_eq {i : Nat} {n k : Int} {L : List I.Ent} (h : Ok i n L) (hn : n ≤ 65536) (hi : i ≤ 1000) :
    F_lecternref16_Cache_Pin (toR n L) k 1 = some (I.pinB k L, toR n (if I.pinB k L then I.upk k (fun e => { e with pins := e.pins + 1 }) L else L)) ∧ Ok (i + 1) n (if I.pinB k L then I.upk k (fun e => { e with pins := e.pins + 1 }) L else L) := by
  have hs := h.small hn
  unfold F_lecternref16_Cache_Pin I.pinB
  simp only [letJ]
  cases hf : I.fnd k L with
  | none =>
    rw [find_no (by omega) (fnd_no hf), Option.bind_some, decide_eq_true (by decide), cond_true, cond_true]
    exact ⟨rfl, h.step⟩
  | some e =>
    obtain ⟨l1, l2, rfl, he, h1⟩ := fnd_split hf
    have hpe := h.pins e (by simp)
    rw [find_some (by omega) he h1, Option.bind_some, decide_eq_false (by omega), cond_false]
    have hm : toR n (l1 ++ e :: l2) = ⟨n, l1.map toE ++ toE e :: l2.map toE⟩ := by simp [toR]
    have hl : (l1.length : Int) = ((l1.map toE).length : Int) := by simp
    have hw : IntKind.wrap .i64 ((toE e).Pins + 1) = e.pins + 1 := w64 (by show _ ≤ e.pins + 1; omega) (by show e.pins + 1 ≤ _; omega)
    rw [hm, hl]
    simp only [idx_mid, Option.bind_some, hw]
    rw [decide_eq_false (by omega), cond_false]
    simp only [if_true, upk_mid he h.nd, set_mid]
    exact ⟨by simp [toR, toE], h.put rfl (by simp; omega)⟩
theorem unpin_eq {i : Nat} {n k : Int} {L : List I.Ent} (h : Ok i n L) (hn : n ≤ 65536) (hi : i ≤ 1000) :
    F_lecternref16_Cache_Pin (toR n L) k (-1) = some (I.unpinB k L, toR n (if I.unpinB k L then I.upk k (fun e => { e with pins := e.pins - 1 }) L else L)) ∧ Ok (i + 1) n (if I.unpinB k L then I.upk k (fun e => { e with pins := e.pins - 1 }) L else L) := by
  have hs := h.small hn
  unfold F_lecternref16_Cache_Pin I.unpinB
  simp only [letJ]
  cases hf : I.fnd k L with
  | none =>
    rw [find_no (by omega) (fnd_no hf), Option.bind_some, decide_eq_true (by decide), cond_true, cond_true]
    exact ⟨rfl, h.step⟩
  | some e =>
    obtain ⟨l1, l2, rfl, he, h1⟩ := fnd_split hf
    have hpe := h.pins e (by simp)
    rw [find_some (by omega) he h1, Option.bind_some, decide_eq_false (by omega), cond_false]
    have hm : toR n (l1 ++ e :: l2) = ⟨n, l1.map toE ++ toE e :: l2.map toE⟩ := by simp [toR]
    have hl : (l1.length : Int) = ((l1.map toE).length : Int) := by simp
    have hw : IntKind.wrap .i64 ((toE e).Pins + -1) = e.pins - 1 := by
      have e0 : (toE e).Pins + -1 = e.pins - 1 := by show e.pins + -1 = _; omega
      rw [e0]; exact w64 (by omega) (by omega)
    rw [hm, hl]
    simp only [idx_mid, Option.bind_some, hw]
    by_cases hp : e.pins = 0
    · rw [decide_eq_true (by omega), cond_true]
      simp only [decide_eq_true hp, Bool.not_true]
      exact ⟨by simp [toR], by simpa using h.step⟩
    · rw [decide_eq_false (by omega), cond_false]
      simp only [decide_eq_false hp, Bool.not_false, if_true, upk_mid he h.nd, set_mid]
      exact ⟨by simp [toR, toE], h.put rfl (by simp; omega)⟩
theorem clean_eq {i : Nat} {n k : Int} {L : List I.Ent} (h : Ok i n L) (hn : n ≤ 65536) :
    F_lecternref16_Cache_Clean (toR n L) k = some (I.cleanB k L, toR n (if I.cleanB k L then I.upk k (fun e => { e with dirty := false }) L else L)) ∧ Ok (i + 1) n (if I.cleanB k L then I.upk k (fun e => { e with dirty := false }) L else L) := by
  have hs := h.small hn
  unfold F_lecternref16_Cache_Clean I.cleanB
  simp only [letJ]
  cases hf : I.fnd k L with
  | none =>
    rw [find_no (by omega) (fnd_no hf), Option.bind_some, decide_eq_true (by decide), cond_true, cond_true]
    exact ⟨rfl, h.step⟩
  | some e =>
    obtain ⟨l1, l2, rfl, he, h1⟩ := fnd_split hf
    have hpe := h.pins e (by simp)
    rw [find_some (by omega) he h1, Option.bind_some, decide_eq_false (by omega), cond_false]
    have hm : toR n (l1 ++ e :: l2) = ⟨n, l1.map toE ++ toE e :: l2.map toE⟩ := by simp [toR]
    have hl : (l1.length : Int) = ((l1.map toE).length : Int) := by simp
    rw [hm, hl]
    simp only [idx_mid, Option.bind_some]
    have hdt : (toE e).Dirty = e.dirty := rfl
    rw [hdt]
    rcases Bool.eq_false_or_eq_true e.dirty with hd | hd
    · simp only [hd, Bool.not_true, cond_false, if_true, upk_mid he h.nd, set_mid]
      exact ⟨by simp [toR, toE], h.put rfl (by simp; omega)⟩
    · simp only [hd, Bool.not_false, cond_true]
      exact ⟨by simp [toR], by simpa using h.step⟩

theorem room_loop {n : Int} {L l1 l2 : List I.Ent} (hl : L.length ≤ 65536) (hL : L = l1 ++ l2) (h1 : ∀ e ∈ l1, I.free e = false) (h2 : ∀ e ∈ l2.head?, I.free e = true) (hp : ∀ e ∈ L, 0 ≤ e.pins) :
    iter (F_lecternref16_Cache_Put_l0 (toR n L)) FUEL (0 : Int) = some (l1.length : Int) := by
  have hll : l1.length ≤ L.length := by rw [hL]; simp
  obtain ⟨o, g1, g2⟩ := iter_spec (b := F_lecternref16_Cache_Put_l0 (toR n L)) (fun i x => x = (i : Int)) (fun o => o = (l1.length : Int)) l1.length (x0 := (0 : Int)) rfl
    (fun i x rec hi hx => .inl ⟨((i + 1 : Nat) : Int), by
      subst hx
      unfold F_lecternref16_Cache_Put_l0 toR
      have hi' : i < (L.map toE).length := by simp; omega
      have hg : (L.map toE)[i] = toE l1[i] := by simp [hL, List.getElem_append_left, hi]
      simp only [letJ]
      rw [decide_eq_true (by simp; omega), cond_true, idx_some hi', Option.bind_some, hg, Option.bind_some, w64 (by omega) (by omega)]
      have hf := h1 _ (List.getElem_mem hi)
      have hp0 := hp l1[i] (by rw [hL]; simp)
      rcases Bool.eq_false_or_eq_true l1[i].dirty with hd | hd
      · have e1 : (toE l1[i]).Dirty = true := hd
        rw [e1]; rfl
      · have e1 : (toE l1[i]).Dirty = false := hd
        have e2 : decide ((0 : Int) < (toE l1[i]).Pins) = true := by
          simp [I.free, hd] at hf
          exact decide_eq_true (show 0 < l1[i].pins by omega)
        rw [e1, e2]; rfl, rfl⟩)
    (fun x rec hx => ⟨_, by
      subst hx
      unfold F_lecternref16_Cache_Put_l0 toR
      simp only [letJ]
      cases l2 with
      | nil =>
        rw [decide_eq_false (by simp [hL]), cond_false, cond_false]
      | cons e l2 =>
        have hm : L.map toE = l1.map toE ++ toE e :: l2.map toE := by simp [hL]
        have hi := idx_mid (l1.map toE) (l2.map toE) (toE e)
        rw [List.length_map] at hi
        have hf := h2 e (by simp)
        simp [I.free] at hf
        have e1 : (toE e).Dirty = false := hf.1
        have e2 : decide ((0 : Int) < (toE e).Pins) = false := decide_eq_false (show ¬ 0 < e.pins by omega)
        rw [decide_eq_true (by simp [hL]; omega), cond_true, hm, hi, Option.bind_some, Option.bind_some, e1, e2]; rfl, rfl⟩) (n := FUEL) (by unfold FUEL; omega)
  rw [g1, g2]

theorem free_split {L : List I.Ent} : (L.any I.free = false ∧ ∀ e ∈ L, I.free e = false) ∨ ∃ l1 e l2, L = l1 ++ e :: l2 ∧ I.free e = true ∧ (∀ x ∈ l1, I.free x = false) ∧ L.any I.free = true ∧ L.eraseP I.free = l1 ++ l2 := by
  cases hf : L.find? I.free with
  | none =>
    left
    have := List.find?_eq_none.1 hf
    exact ⟨by rw [List.any_eq_false]; exact this, fun e he => by simpa using this e he⟩
  | some e =>
    right
    obtain ⟨h1, xs, ys, h2, h3⟩ := List.find?_eq_some_iff_append.1 hf
    refine ⟨xs, e, ys, h2, h1, fun x hx => by simpa using h3 x hx, ?_, ?_⟩
    · rw [List.any_eq_true]; exact ⟨e, by rw [h2]; simp, h1⟩
    · rw [h2, List.eraseP_append_right _ (fun x hx => by simpa using h3 x hx), List.eraseP_cons_of_pos h1]

theorem Ok.add {i : Nat} {n k v : Int} {b : Bool} {L : List I.Ent} (h : Ok (i + 1) n L) (hk : ∀ x ∈ L, x.key ≠ k) (hl : (L.length : Int) < n) : Ok (i + 1) n (L ++ [⟨k, v, b, 0⟩]) := by
  refine ⟨?_, by simp; omega, fun x hx => ?_⟩
  · rw [List.map_append, List.nodup_append]
    refine ⟨h.nd, by simp, fun a ha c hc => ?_⟩
    obtain ⟨x, hx, rfl⟩ := List.mem_map.1 ha
    simp at hc; subst hc; exact hk x hx
  · simp at hx
    rcases hx with hx | rfl
    · exact h.pins x hx
    · simp; omega

theorem put_eq {i : Nat} {n k v : Int} {b : Bool} {L : List I.Ent} (h : Ok i n L) (h1n : 1 ≤ n) (hn : n ≤ 65536) :
    F_lecternref16_Cache_Put (toR n L) k v b = some ((I.putL k v b n L).1, toR n (I.putL k v b n L).2) ∧ Ok (i + 1) n (I.putL k v b n L).2 := by
  have hs := h.small hn
  unfold F_lecternref16_Cache_Put I.putL
  cases hf : I.fnd k L with
  | some e =>
    obtain ⟨l1, l2, rfl, he, h1⟩ := fnd_split hf
    have hpe := h.pins e (by simp)
    rw [find_some (by omega) he h1, Option.bind_some, decide_eq_true (by omega), cond_true]
    have hm : toR n (l1 ++ e :: l2) = ⟨n, l1.map toE ++ toE e :: l2.map toE⟩ := by simp [toR]
    have hl : (l1.length : Int) = ((l1.map toE).length : Int) := by simp
    have hb : ∀ x : T_lecternref16_Entry, (l1.map toE ++ x :: l2.map toE).length ≤ 100000 := fun x => by simp at hs ⊢; omega
    rw [hm, hl]
    simp only [letJ, idx_mid, Option.bind_some, set_mid, rem_mid he h1]
    rcases Bool.eq_false_or_eq_true e.dirty with hd | hd
    · have e1 : (toE e).Dirty = true := hd
      simp only [e1, cond_true, used_mid (hb _), Option.bind_some]
      refine ⟨by simp [toR, toE, hd], h.back rfl (by simp; omega)⟩
    · have e1 : (toE e).Dirty = false := hd
      simp only [e1, cond_false, used_mid (hb _), Option.bind_some]
      refine ⟨by simp [toR, toE, hd], h.back rfl (by simp; omega)⟩
  | none =>
    have hno := fnd_no hf
    rw [find_no (by omega) hno, Option.bind_some, decide_eq_false (by omega), cond_false]
    simp only [letJ, Option.bind_some]
    have hpl : (toR n L).Places = n := rfl
    have hll : ((toR n L).L.length : Int) = (L.length : Int) := by simp [toR]
    rw [hpl, hll]
    have app1 : ∀ M : List I.Ent, M.length ≤ 65536 → app 32 (M.map toE) [(⟨k, v, b, 0⟩ : T_lecternref16_Entry)] = some (M.map toE ++ [⟨k, v, b, 0⟩]) := fun M hM => app_some (by simp; omega) (by simp; omega)
    by_cases hfull : (L.length : Int) = n
    · rw [decide_eq_true (by omega), cond_true]
      rw [if_pos hfull]
      rcases free_split (L := L) with ⟨g1, g2⟩ | ⟨l1, e, l2, rfl, g1, g2, g3, g4⟩
      · rw [room_loop (l1 := L) (l2 := []) hs (by simp) g2 (by simp) (fun e he => (h.pins e he).1), Option.bind_some]
        rw [beq_self_eq_true, cond_true, g1]
        exact ⟨rfl, h.step⟩
      · rw [room_loop (l1 := l1) (l2 := e :: l2) hs rfl g2 (by simpa using g1) (fun e he => (h.pins e he).1), Option.bind_some]
        have hne : ((l1.length : Int) == (((l1 ++ e :: l2).length : Nat) : Int)) = false := by simp; omega
        have hm : toR n (l1 ++ e :: l2) = ⟨n, l1.map toE ++ toE e :: l2.map toE⟩ := by simp [toR]
        have hl : (l1.length : Int) = ((l1.map toE).length : Int) := by simp
        rw [hne, cond_false, hm, hl, out_mid (by simp at hs ⊢; omega), Option.bind_some, g3, if_pos rfl, g4]
        have hA := app1 (l1 ++ l2) (by simp at hs ⊢; omega)
        rw [List.map_append] at hA
        simp only [hA, Option.bind_some]
        have hlen := h.len
        refine ⟨by simp [toR, toE], (h.out).add (fun x hx => hno x (by simp at hx ⊢; rcases hx with hx | hx <;> simp [hx])) (by simp at hlen ⊢; omega)⟩
    · have hlen := h.len
      rw [decide_eq_false (by omega), cond_false, if_neg hfull]
      have hA := app1 L hs
      have hL2 : (toR n L).L = L.map toE := rfl
      rw [hL2]
      simp only [hA, Option.bind_some]
      exact ⟨by simp [toR, toE], h.step.add hno (by omega)⟩

theorem plays_eq {i : Nat} {n : Int} {L : List I.Ent} (o : T_lecternlaw16_Op) (h : Ok i n L) (h1n : 1 ≤ n) (hn : n ≤ 65536) (hi : i ≤ 1000) :
    ∃ L', F_lecternlaw16_plays L n (toR n L) o = some (true, L', toR n L') ∧ Ok (i + 1) n L' := by
  have hg : I.pinG L = some () := if_pos fun e he => by have := h.pins e he; omega
  unfold F_lecternlaw16_plays
  cases h0 : (o.Kind == (0 : Int)) with
  | true =>
    obtain ⟨e1, e2⟩ := get_eq (k := o.K) h hn
    simp only [cond_true, Option.bind_some, e1]
    exact ⟨_, by simp, e2⟩
  | false =>
  cases h1 : (o.Kind == (1 : Int)) with
  | true =>
    obtain ⟨e1, e2⟩ := put_eq (k := o.K) (v := o.V) (b := o.Dirty) h h1n hn
    simp only [cond_true, cond_false, Option.bind_some, e1]
    exact ⟨_, by simp, e2⟩
  | false =>
  cases h2 : (o.Kind == (2 : Int)) with
  | true =>
    obtain ⟨e1, e2⟩ := drop_eq (k := o.K) h hn
    simp only [cond_true, cond_false, Option.bind_some, e1]
    exact ⟨_, by simp, e2⟩
  | false =>
  cases h3 : (o.Kind == (3 : Int)) with
  | true =>
    obtain ⟨e1, e2⟩ := pin_eq (k := o.K) h hn hi
    simp only [cond_true, cond_false, hg, Option.bind_some, e1]
    exact ⟨_, by simp, e2⟩
  | false =>
  cases h4 : (o.Kind == (4 : Int)) with
  | true =>
    obtain ⟨e1, e2⟩ := unpin_eq (k := o.K) h hn hi
    simp only [cond_true, cond_false, hg, Option.bind_some, e1]
    exact ⟨_, by simp, e2⟩
  | false =>
  cases h5 : (o.Kind == (5 : Int)) with
  | true =>
    obtain ⟨e1, e2⟩ := clean_eq (k := o.K) h hn
    simp only [cond_true, cond_false, Option.bind_some, e1]
    exact ⟨_, by simp, e2⟩
  | false =>
    simp only [cond_false]
    exact ⟨_, rfl, h.step⟩

theorem plays (p0 : Int) (p1 : List T_lecternlaw16_Op) : F_lecternlaw16_CachePlays p0 p1 = some true := by
  unfold F_lecternlaw16_CachePlays
  by_cases hp : 1 ≤ p0 ∧ p0 ≤ 65536
  · rw [decide_eq_true hp.1, decide_eq_true hp.2, Bool.and_self, cond_true, decide_eq_false (by omega), decide_eq_false (by omega), Bool.or_self, cond_false, bne_self_eq_false, cond_false]
    simp only [letJ]
    obtain ⟨o, h1, L, h2⟩ := iter_spec (b := F_lecternlaw16_CachePlays_l0 p0 p1) (fun i x => ∃ L, x = (L, p0, L.map toE, (i : Int)) ∧ Ok i p0 L) (fun o => ∃ L, o = .inl L) (min p1.length 300)
      (x0 := (([] : List I.Ent), p0, ([] : List T_lecternref16_Entry), (0 : Int))) ⟨[], rfl, by simp, by simp; omega, by simp⟩
      (fun i x rec hi ⟨L, hx, hok⟩ => .inl (by
        subst hx
        have hs := hok.small hp.2
        obtain ⟨L', e1, e2⟩ := plays_eq p1[i] hok hp.1 hp.2 (by omega)
        have hs' := e2.small hp.2
        have e1' : F_lecternlaw16_plays L p0 (⟨p0, L.map toE⟩ : T_lecternref16_Cache) p1[i] = some (true, L', toR p0 L') := e1
        have hlg : I.lenG L' = some () := if_pos (by omega)
        have hkl : ∀ b, (I.keysL b L').length < 1000000000 := fun b => by
          unfold I.keysL; rw [List.length_map]
          have := List.length_filter_le (fun e : I.Ent => b || e.dirty) L'; omega
        unfold F_lecternlaw16_CachePlays_l0
        simp only [letJ]
        rw [decide_eq_true (by omega), cond_true, idx_some (by omega), Option.bind_some, decide_eq_false (by omega), cond_false, e1', Option.bind_some]
        simp only [Bool.not_true, cond_false, hlg, Option.bind_some, keys_eq true (by omega : L'.length ≤ 100000), keys_eq false (by omega : L'.length ≤ 100000), same_refl _ (hkl true), same_refl _ (hkl false)]
        have hb : ((L'.length : Int) != ((toR p0 L').L.length : Int)) = false := by simp [toR]
        rw [hb, cond_false, w64 (by omega) (by omega)]
        exact ⟨_, rfl, L', rfl, e2⟩))
      (fun x rec ⟨L, hx, hok⟩ => by
        subst hx
        unfold F_lecternlaw16_CachePlays_l0
        simp only [letJ]
        by_cases hlt : p1.length < 300
        · rw [Nat.min_eq_left (by omega), decide_eq_false (by omega), cond_false]
          exact ⟨_, rfl, L, rfl⟩
        · by_cases heq : p1.length = 300
          · rw [Nat.min_eq_left (by omega), decide_eq_false (by omega), cond_false]
            exact ⟨_, rfl, L, rfl⟩
          · rw [Nat.min_eq_right (by omega), decide_eq_true (by omega), cond_true, idx_some (by omega), Option.bind_some, decide_eq_true (by omega), cond_true]
            exact ⟨_, rfl, L, rfl⟩) (n := FUEL) (by unfold FUEL; omega)
    rw [h1, h2]; rfl
  · have hb : (decide (1 ≤ p0) && decide (p0 ≤ 65536)) = false := by
      by_cases h1 : 1 ≤ p0
      · rw [decide_eq_true h1, decide_eq_false (fun h => hp ⟨h1, h⟩)]; rfl
      · rw [decide_eq_false h1]; rfl
    have hc : (decide (p0 < (1 : Int)) || decide ((65536 : Int) < p0)) = true := by
      by_cases h1 : 1 ≤ p0
      · rw [decide_eq_true (by omega : (65536 : Int) < p0)]; simp
      · rw [decide_eq_true (by omega : p0 < (1 : Int))]; simp
    rw [hb, cond_false, hc, cond_true]; rfl

theorem plays_calls (h : Heap) (p0 : Int) (p1 : List T_lecternlaw16_Op) : CallsA Try.prog 5 [.int .i64 p0, .sl 4 (p1.map c_T_lecternlaw16_Op) 0] h fun d _ => d = .bool true :=
  (F_lecternlaw16_CachePlays_w p0 p1 (G := fun r => r = true) h ⟨true, plays p0 p1, rfl⟩).mono fun d h' ⟨r, hr, hd⟩ => by subst hr; exact hd
end Go.Proofs.Ytcjndiagbdkikaa
