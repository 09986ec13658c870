/- CacheKeeps: the plain law. No condition. -/
import Derived.Test.YtcjndiagbdkikaaWkK
import Derived.Test.YtcjndiagbdkikaaLm
set_option linter.unusedSimpArgs false
set_option linter.unusedVariables false
namespace Go.Proofs.Ytcjndiagbdkikaa

def hvE (e : I.Ent) : Int := 2 * e.pins + (if e.dirty then 1 else 0)

structure KInv (i : Nat) (n : Int) (L : List I.Ent) (last held : PM Int Int) : Prop where
  nd : (L.map I.Ent.key).Nodup
  len : (L.length : Int) ≤ n
  pins : ∀ e ∈ L, 0 ≤ e.pins ∧ e.pins ≤ i
  wl : last.Wf
  wh : held.Wf
  la : ∀ e ∈ L, last.get e.key = some e.val
  he : ∀ e ∈ L, (held.get e.key).getD 0 = hvE e
  ho : ∀ k, k ∉ L.map I.Ent.key → (held.get k).getD 0 = 0

theorem KInv.perm {i : Nat} {n : Int} {L L' : List I.Ent} {last held : PM Int Int} (H : KInv i n L last held) (hp : L'.Perm L) : KInv i n L' last held :=
  ⟨((hp.map _).nodup_iff).2 H.nd, by rw [hp.length_eq]; exact H.len, fun e he => H.pins e (hp.mem_iff.1 he), H.wl, H.wh, fun e he => H.la e (hp.mem_iff.1 he), fun e he => H.he e (hp.mem_iff.1 he),
   fun k hk => H.ho k (fun h => hk ((hp.map _).mem_iff.2 h))⟩
theorem KInv.step {i : Nat} {n : Int} {L : List I.Ent} {last held : PM Int Int} (H : KInv i n L last held) : KInv (i + 1) n L last held :=
  ⟨H.nd, H.len, fun e he => ⟨(H.pins e he).1, by have := (H.pins e he).2; omega⟩, H.wl, H.wh, H.la, H.he, H.ho⟩

theorem hvE_nn {e : I.Ent} (h : 0 ≤ e.pins) : 0 ≤ hvE e := by unfold hvE; split <;> omega
theorem hvE_le {e : I.Ent} {i : Nat} (h : e.pins ≤ i) : hvE e ≤ 2 * i + 1 := by unfold hvE; split <;> omega

/-- An entry in the place of one of the same key. -/
theorem KInv.set {i : Nat} {n : Int} {l1 l2 : List I.Ent} {e e' : I.Ent} {last held last' held' : PM Int Int} (H : KInv i n (l1 ++ e :: l2) last held) (hk : e'.key = e.key) (hp : 0 ≤ e'.pins ∧ e'.pins ≤ i)
    (wl : last'.Wf) (wh : held'.Wf) (gl : ∀ k, k ≠ e.key → last'.get k = last.get k) (gh : ∀ k, k ≠ e.key → (held'.get k).getD 0 = (held.get k).getD 0) (hl : last'.get e.key = some e'.val) (hh : (held'.get e.key).getD 0 = hvE e') :
    KInv i n (l1 ++ e' :: l2) last' held' := by
  have hm : (l1 ++ e' :: l2).map I.Ent.key = (l1 ++ e :: l2).map I.Ent.key := by simp [hk]
  have hne : ∀ x ∈ l1 ++ l2, x.key ≠ e.key ∧ x ∈ l1 ++ e :: l2 := by
    intro x hx
    have nd := H.nd
    rw [((List.perm_middle (l₁ := l1) (l₂ := l2) (a := e)).map I.Ent.key).nodup_iff] at nd
    simp only [List.map_cons, List.nodup_cons] at nd
    refine ⟨fun e2 => nd.1 (by rw [← e2]; exact List.mem_map.2 ⟨x, hx, rfl⟩), ?_⟩
    rcases List.mem_append.1 hx with h | h <;> simp [h]
  have hmem : ∀ x ∈ l1 ++ e' :: l2, x = e' ∨ x ∈ l1 ++ l2 := by
    intro x hx
    rcases List.mem_append.1 hx with h | h
    · simp [h]
    · rcases List.mem_cons.1 h with h | h <;> simp [h]
  refine ⟨by rw [hm]; exact H.nd, by have := H.len; simpa using this, fun x hx => ?_, wl, wh, fun x hx => ?_, fun x hx => ?_, fun k hk2 => ?_⟩
  · rcases hmem x hx with h | h
    · subst h; exact hp
    · exact H.pins x (hne x h).2
  · rcases hmem x hx with h | h
    · subst h; rw [hk]; exact hl
    · rw [gl _ (hne x h).1]; exact H.la x (hne x h).2
  · rcases hmem x hx with h | h
    · subst h; rw [hk]; exact hh
    · rw [gh _ (hne x h).1]; exact H.he x (hne x h).2
  · rw [hm] at hk2
    have : k ≠ e.key := fun e2 => hk2 (by rw [e2]; simp)
    rw [gh _ this]; exact H.ho k hk2

/-- An entry more. -/
theorem KInv.add {i : Nat} {n k v : Int} {b : Bool} {L : List I.Ent} {last held last' held' : PM Int Int} (H : KInv i n L last held) (hk : k ∉ L.map I.Ent.key) (hn : (L.length : Int) < n)
    (wl : last'.Wf) (wh : held'.Wf) (gl : ∀ q, q ≠ k → last'.get q = last.get q) (gh : ∀ q, q ≠ k → (held'.get q).getD 0 = (held.get q).getD 0) (hl : last'.get k = some v) (hh : (held'.get k).getD 0 = if b then 1 else 0) :
    KInv i n (L ++ [⟨k, v, b, 0⟩]) last' held' := by
  have hne : ∀ x ∈ L, x.key ≠ k := fun x hx e => hk (by rw [← e]; exact List.mem_map.2 ⟨x, hx, rfl⟩)
  refine ⟨?_, by simp; omega, fun x hx => ?_, wl, wh, fun x hx => ?_, fun x hx => ?_, fun q hq => ?_⟩
  · rw [List.map_append]
    refine List.nodup_append.2 ⟨H.nd, by simp, fun a ha c hc e => ?_⟩
    simp at hc; subst hc; subst e; exact hk ha
  · rcases List.mem_append.1 hx with h | h
    · exact H.pins x h
    · simp at h; subst h; simp
  · rcases List.mem_append.1 hx with h | h
    · rw [gl _ (hne x h)]; exact H.la x h
    · simp at h; subst h; exact hl
  · rcases List.mem_append.1 hx with h | h
    · rw [gh _ (hne x h)]; exact H.he x h
    · simp at h; subst h; rw [hh]; simp [hvE]
  · simp only [List.map_append, List.map_cons, List.map_nil, List.mem_append, List.mem_singleton, not_or] at hq
    rw [gh _ hq.2]; exact H.ho q hq.1

/-- A free entry less. -/
theorem KInv.out {i : Nat} {n : Int} {L : List I.Ent} {last held : PM Int Int} (H : KInv i n L last held) (ha : L.any I.free = true) : KInv i n (L.eraseP I.free) last held ∧ (L.eraseP I.free).length + 1 = L.length ∧ ∀ k, k ∉ L.map I.Ent.key → k ∉ (L.eraseP I.free).map I.Ent.key := by
  obtain ⟨x, hx, hf⟩ := List.any_eq_true.1 ha
  obtain ⟨e, l1, l2, h1, h2, h3, h4⟩ := List.exists_of_eraseP hx hf
  rw [h4]
  subst h3
  have hsub : ∀ y ∈ l1 ++ l2, y ∈ l1 ++ e :: l2 := fun y hy => by
    rcases List.mem_append.1 hy with h | h <;> simp [h]
  have hz : hvE e = 0 := by
    simp only [I.free, Bool.and_eq_true, Bool.not_eq_true', decide_eq_true_eq] at h2
    simp [hvE, h2.1, h2.2]
  have nd := H.nd
  rw [((List.perm_middle (l₁ := l1) (l₂ := l2) (a := e)).map I.Ent.key).nodup_iff] at nd
  simp only [List.map_cons, List.nodup_cons] at nd
  refine ⟨⟨nd.2, by have := H.len; simp at this ⊢; omega, fun y hy => H.pins y (hsub y hy), H.wl, H.wh, fun y hy => H.la y (hsub y hy), fun y hy => H.he y (hsub y hy), fun k hk => ?_⟩, by simp; omega, fun k hk => ?_⟩
  · by_cases he : k = e.key
    · rw [he, H.he e (by simp), hz]
    · refine H.ho k fun h => hk ?_
      obtain ⟨y, hy, e2⟩ := List.mem_map.1 h
      have : y ∈ l1 ++ l2 := by
        rcases List.mem_append.1 hy with h | h
        · simp [h]
        · rcases List.mem_cons.1 h with h | h
          · exact absurd (by rw [← e2, h]) he
          · simp [h]
      exact List.mem_map.2 ⟨y, this, e2⟩
  · intro h
    obtain ⟨y, hy, e2⟩ := List.mem_map.1 h
    exact hk (List.mem_map.2 ⟨y, hsub y hy, e2⟩)

theorem keysL_all (L : List I.Ent) : I.keysL true L = L.map I.Ent.key := by unfold I.keysL; rw [List.filter_eq_self.2 (by simp)]

/-- The map of what is there. -/
theorem there_loop (L : List I.Ent) (nd : (L.map I.Ent.key).Nodup) (hl : L.length ≤ 1000) :
    ∃ m : PM Int Bool, iter (F_lecternlaw16_CacheKeeps_l1 L) FUEL ((pm0 : PM Int Bool), (0 : Int)) = some m ∧ m.Wf ∧ (∀ k, (m.get k).getD false = decide (k ∈ L.map I.Ent.key)) ∧ m.es.length = L.length := by
  obtain ⟨o, h1, m, h2, h3, h4, h5⟩ := iter_spec (b := F_lecternlaw16_CacheKeeps_l1 L) (fun i x => ∃ m : PM Int Bool, x = (m, (i : Int)) ∧ m.Wf ∧ (∀ k, m.get k = if k ∈ (L.map I.Ent.key).take i then some true else none) ∧ m.es.length = i)
    (fun o => ∃ m : PM Int Bool, o = m ∧ m.Wf ∧ (∀ k, m.get k = if k ∈ L.map I.Ent.key then some true else none) ∧ m.es.length = L.length) L.length (x0 := ((pm0 : PM Int Bool), (0 : Int))) ⟨pm0, rfl, pm0_wf, fun k => by simp [PM.get, pm0], rfl⟩
    (fun i x rec hi ⟨m, hx, hw, hg, hn⟩ => .inl (by
      subst hx
      have hi' : i < (L.map I.Ent.key).length := by simpa using hi
      unfold F_lecternlaw16_CacheKeeps_l1
      simp only [keysL_all]
      rw [decide_eq_true (by simp; omega), cond_true, idx_some hi', Option.bind_some, Option.bind_some, w64 (by omega) (by omega)]
      have hnot : (L.map I.Ent.key)[i] ∉ (L.map I.Ent.key).take i := fun hm => by
        obtain ⟨j, hj, e⟩ := List.getElem_of_mem hm
        simp at hj
        rw [List.getElem_take] at e
        have := (List.getElem_inj nd).1 e
        omega
      refine ⟨(_, ((i + 1 : Nat) : Int)), rfl, _, rfl, hw.put _ _, fun k => ?_, ?_⟩
      · rw [PM.get_put, hg, List.take_add_one, List.getElem?_eq_getElem hi', Option.toList_some]
        by_cases hk : k = (L.map I.Ent.key)[i]
        · simp [hk]
        · rw [if_neg hk]
          simp only [List.mem_append, List.mem_singleton, hk, or_false]
      · rw [PM.len_put, hg, if_neg hnot, if_pos rfl, hn]))
    (fun x rec ⟨m, hx, hw, hg, hn⟩ => ⟨m, by
      subst hx
      unfold F_lecternlaw16_CacheKeeps_l1
      simp only [keysL_all]
      rw [decide_eq_false (by simp), cond_false], m, rfl, hw, fun k => by rw [hg, List.take_of_length_le (by simp)], hn⟩) (n := FUEL) (by unfold FUEL; omega)
  subst h2
  refine ⟨o, h1, h3, fun k => ?_, h5⟩
  rw [h4]; split <;> simp [*]

/-- The last loop: each key has the value that was put last. -/
theorem last_loop (L : List I.Ent) (last : PM Int Int) (nd : (L.map I.Ent.key).Nodup) (hl : L.length ≤ 1000) (la : ∀ e ∈ L, last.get e.key = some e.val) :
    ∃ M, iter (F_lecternlaw16_CacheKeeps_l2 L last) FUEL (L, (0 : Int)) = some (.inl M) := by
  obtain ⟨o, h1, M, h2⟩ := iter_spec (b := F_lecternlaw16_CacheKeeps_l2 L last) (fun i x => ∃ M : List I.Ent, x = (M, (i : Int)) ∧ M.Perm L)
    (fun o => ∃ M : List I.Ent, o = .inl M) L.length (x0 := (L, (0 : Int))) ⟨L, rfl, .refl _⟩
    (fun i x rec hi ⟨M, hx, hp⟩ => .inl (by
      subst hx
      have hi' : i < (L.map I.Ent.key).length := by simpa using hi
      unfold F_lecternlaw16_CacheKeeps_l2
      simp only [keysL_all]
      rw [decide_eq_true (by simp; omega), cond_true, idx_some hi', Option.bind_some, Option.bind_some, w64 (by omega) (by omega)]
      have hf : I.fnd (L.map I.Ent.key)[i] M = some L[i] := by
        rw [fnd_perm hp nd, fnd_iff nd]; simp
      have hv := la L[i] (by simp)
      rw [hf]
      simp only [List.getElem_map, hv, Option.isSome_some, Bool.not_true, Option.map_some, Option.getD_some, bne_self_eq_false, Bool.or_self, cond_false]
      exact ⟨(_, ((i + 1 : Nat) : Int)), rfl, _, rfl, (usd_perm _ _).trans hp⟩))
    (fun x rec ⟨M, hx, hp⟩ => ⟨.inl M, by
      subst hx
      unfold F_lecternlaw16_CacheKeeps_l2
      simp only [keysL_all]
      rw [decide_eq_false (by simp), cond_false], M, rfl⟩) (n := FUEL) (by unfold FUEL; omega)
  exact ⟨M, by rw [h1, h2]⟩

/-- What is looked at behind each step. -/
theorem held_all {i : Nat} {n : Int} {L : List I.Ent} {last held : PM Int Int} (H : KInv i n L last held) {m : PM Int Bool} (hm : ∀ k, (m.get k).getD false = decide (k ∈ L.map I.Ent.key)) :
    allM (fun (k : Int) (v : Int) => (cond ((decide (v < (0 : Int))) || ((decide ((0 : Int) < v)) && (!((PM.get m k).getD false)))) (none) (some ()) : Option Unit)) held = some () := by
  refine allM_some H.wh.ok fun b k v hmem => ?_
  have hg := H.wh.mem hmem
  rw [hm]
  by_cases hk : k ∈ L.map I.Ent.key
  · obtain ⟨e, he, rfl⟩ := List.mem_map.1 hk
    have h1 := H.he e he
    rw [hg, Option.getD_some] at h1
    have := hvE_nn (H.pins e he).1
    rw [decide_eq_false (by omega), decide_eq_true hk]; simp
  · have h1 := H.ho k hk
    rw [hg, Option.getD_some] at h1
    subst h1; rfl

theorem upk_mid {k : Int} {f : I.Ent → I.Ent} {l1 l2 : List I.Ent} {e : I.Ent} (he : e.key = k) (nd : ((l1 ++ e :: l2).map I.Ent.key).Nodup) : I.upk k f (l1 ++ e :: l2) = l1 ++ f e :: l2 := by
  have hk : ∀ x ∈ l1 ++ l2, x.key ≠ k := by
    intro x hx hxk
    have hp : ((l1 ++ e :: l2).map I.Ent.key).Perm (e.key :: (l1 ++ l2).map I.Ent.key) := by
      simp
    have := (List.nodup_cons.1 ((hp.nodup_iff).1 nd)).1
    exact this (by rw [he, ← hxk]; exact List.mem_map_of_mem hx)
  unfold I.upk
  rw [List.map_append, List.map_cons, if_pos he]
  congr 1
  · exact (List.map_congr_left fun x hx => by rw [if_neg (hk x (by simp [hx]))]).trans (List.map_id' _)
  · congr 1
    exact (List.map_congr_left fun x hx => by rw [if_neg (hk x (by simp [hx]))]).trans (List.map_id' _)

theorem letJ_gen {α β : Type} {K : α → Option β} {f : (α → Option β) → Option β} {P : Option β → Prop} (h : ∀ J, J = K → P (f J)) : P (letJ K f) := h K rfl

theorem tmod2 {p : Int} {d : Bool} (h : 0 ≤ p) : (Int.tmod (2 * p + (if d then 1 else 0)) 2 == 0) = !d := by
  rw [Int.tmod_eq_emod_of_nonneg (by split <;> omega)]
  cases d
  · simp
  · simp

theorem keeps_step (p0 : Int) (p1 : List T_lecternlaw16_Op) (N : Int) (hN : 1 + Int.tmod (IntKind.wrap .u64 p0) 20 = N) (h1N : 1 ≤ N) (h20 : N ≤ 20) {i : Nat} {L : List I.Ent} {last held : PM Int Int} (H : KInv i N L last held) (hi : i < p1.length) (h300 : i < 300)
    (rec : (List I.Ent) × (PM Int Int) × (PM Int Int) × Int → Option (((List I.Ent) × (PM Int Int)) ⊕ Bool)) :
    ∃ L2 last2 held2, F_lecternlaw16_CacheKeeps_l0 p0 p1 rec (L, last, held, (i : Int)) = rec (L2, last2, held2, ((i + 1 : Nat) : Int)) ∧ KInv (i + 1) N L2 last2 held2 := by
  have hm : 0 ≤ Int.tmod (IntKind.wrap .u64 p0) 20 ∧ Int.tmod (IntKind.wrap .u64 p0) 20 < 20 := ⟨Int.tmod_nonneg _ (wu64 p0).1, Int.tmod_lt_of_pos _ (by decide)⟩
  unfold F_lecternlaw16_CacheKeeps_l0
  dsimp only
  rw [w64 (x := Int.tmod (IntKind.wrap .u64 p0) 20) (by omega) (by omega), w64 (x := 1 + Int.tmod (IntKind.wrap .u64 p0) 20) (by omega) (by omega), hN]
  rw [decide_eq_true (by omega), cond_true]
  refine letJ_gen (P := fun r => ∃ L2 last2 held2, r = rec (L2, last2, held2, ((i + 1 : Nat) : Int)) ∧ KInv (i + 1) N L2 last2 held2) fun J1 hJ1 => ?_
  rw [idx_some hi, Option.bind_some, decide_eq_false (by omega), cond_false]
  refine letJ_gen (P := fun r => ∃ L2 last2 held2, r = rec (L2, last2, held2, ((i + 1 : Nat) : Int)) ∧ KInv (i + 1) N L2 last2 held2) fun J2 hJ2 => ?_
  have tail : ∀ L2 last2 held2, KInv (i + 1) N L2 last2 held2 → ∃ L3 last3 held3, J2 (L2, last2, held2) = rec (L3, last3, held3, ((i + 1 : Nat) : Int)) ∧ KInv (i + 1) N L3 last3 held3 := by
    intro L2 last2 held2 H2
    subst hJ2
    have hL := H2.len
    have hg : I.lenG L2 = some () := if_pos (by omega)
    obtain ⟨m, hm1, hm2, hm3, hm4⟩ := there_loop L2 H2.nd (by omega)
    refine ⟨L2, last2, held2, ?_, H2⟩
    simp only [letJ, hg, Option.bind_some, hm1, held_all H2 hm3, hm4, bne_self_eq_false]
    rw [decide_eq_false (by omega), cond_false, cond_false, hJ1]
    simp only
    rw [w64 (by omega) (by omega)]
    rfl
  clear hJ1 hJ2
  generalize p1[i] = o
  by_cases k1 : o.Kind = 1
  · rw [k1, beq_self_eq_true, cond_true, Option.bind_some, Option.bind_some]
    have H1 := (H.perm (usd_perm o.K L)).step
    have hf1 : I.fnd o.K (I.usd o.K L) = I.fnd o.K L := fnd_perm (usd_perm o.K L) H.nd
    generalize I.usd o.K L = L1 at *
    cases hf : I.fnd o.K L with
    | some e =>
      rw [hf] at hf1
      obtain ⟨l1, l2, rfl, hek, hl1⟩ := fnd_split hf1
      have hpe := H1.pins e (by simp)
      have hhe := H1.he e (by simp)
      rw [hek] at hhe
      simp only [I.putL, hf1, rem_mid hek hl1, bne_self_eq_false, cond_false, letJ, Option.isSome_some, Bool.not_true, Option.bind_some]
      have hperm : ∀ e' : I.Ent, (l1 ++ l2 ++ [e']).Perm (l1 ++ e' :: l2) := fun e' => (List.perm_append_comm (l₁ := l1 ++ l2) (l₂ := [e'])).trans (List.perm_middle (l₁ := l1) (l₂ := l2) (a := e')).symm
      have hgl : ∀ q, q ≠ e.key → (last.put o.K o.V).get q = last.get q := fun q hq => by rw [PM.get_put, if_neg (by rw [← hek]; exact hq)]
      have hlv : (last.put o.K o.V).get e.key = some o.V := by rw [PM.get_put, if_pos hek]
      rw [hhe]
      have htm : (Int.tmod (hvE e) 2 == 0) = !e.dirty := tmod2 hpe.1
      rw [htm]
      cases hd : (o.Dirty && !e.dirty) with
      | true =>
        simp only [Bool.and_eq_true, Bool.not_eq_true'] at hd
        have hv : hvE e = 2 * e.pins := by simp [hvE, hd.2]
        rw [cond_true, w64 (by have := hpe.1; have := hpe.2; omega) (by have := hpe.1; have := hpe.2; omega)]
        refine tail _ _ _ (KInv.perm (KInv.set H1 (e' := { e with val := o.V, dirty := e.dirty || o.Dirty }) rfl hpe (H1.wl.put _ _) (H1.wh.put _ _) hgl (fun q hq => ?_) hlv ?_) (hperm _))
        · rw [PM.get_put, if_neg (by rw [← hek]; exact hq)]
        · rw [PM.get_put, if_pos hek]; simp [hvE, hd.1, hd.2]
      | false =>
        rw [cond_false]
        refine tail _ _ _ (KInv.perm (KInv.set H1 (e' := { e with val := o.V, dirty := e.dirty || o.Dirty }) rfl hpe (H1.wl.put _ _) H1.wh hgl (fun q hq => rfl) hlv ?_) (hperm _))
        have hq : (e.dirty || o.Dirty) = e.dirty := by cases h1 : o.Dirty <;> cases h2 : e.dirty <;> simp_all
        rw [hek, hhe]; simp only [hvE, hq]
    | none =>
      rw [hf] at hf1
      have hk : o.K ∉ L1.map I.Ent.key := fnd_no.1 hf1
      have fin : ∀ M : List I.Ent, KInv (i + 1) N M last held → o.K ∉ M.map I.Ent.key → (M.length : Int) < N →
          ∃ L3 last3 held3, (cond (o.Dirty && (Int.tmod (((held.put o.K 0).get o.K).getD 0) 2 == 0)) ((some ((held.put o.K 0).put o.K (IntKind.wrap .i64 ((((held.put o.K 0).get o.K).getD 0) + 1)))).bind fun a => J2 (M ++ [⟨o.K, o.V, o.Dirty, 0⟩], last.put o.K o.V, a))
            (J2 (M ++ [⟨o.K, o.V, o.Dirty, 0⟩], last.put o.K o.V, held.put o.K 0))) = rec (L3, last3, held3, ((i + 1 : Nat) : Int)) ∧ KInv (i + 1) N L3 last3 held3 := by
        intro M HM hkM hlM
        have h0 : ((held.put o.K 0).get o.K).getD 0 = 0 := by rw [PM.get_put, if_pos rfl]; rfl
        rw [h0]
        have hgl : ∀ q, q ≠ o.K → (last.put o.K o.V).get q = last.get q := fun q hq => by rw [PM.get_put, if_neg hq]
        have hgh : ∀ q, q ≠ o.K → ((held.put o.K 0).get q).getD 0 = (held.get q).getD 0 := fun q hq => by rw [PM.get_put, if_neg hq]
        cases hd : o.Dirty with
        | true =>
          rw [show (true && (Int.tmod 0 2 == 0)) = true from rfl, cond_true, Option.bind_some]
          refine tail _ _ _ (KInv.add HM hkM hlM (HM.wl.put _ _) ((HM.wh.put _ _).put _ _) hgl (fun q hq => ?_) (by rw [PM.get_put, if_pos rfl]) ?_)
          · rw [PM.get_put, if_neg hq]; exact hgh q hq
          · rw [PM.get_put, if_pos rfl]; rfl
        | false =>
          rw [Bool.false_and, cond_false]
          refine tail _ _ _ (KInv.add HM hkM hlM (HM.wl.put _ _) (HM.wh.put _ _) hgl hgh (by rw [PM.get_put, if_pos rfl]) ?_)
          rw [h0]; rfl
      by_cases hfull : (L1.length : Int) = N
      · by_cases ha : L1.any I.free = true
        · obtain ⟨HM, hlen, hsub⟩ := H1.out ha
          simp only [I.putL, hf1, if_pos hfull, if_pos ha, bne_self_eq_false, cond_false, letJ, Option.isSome_none, Bool.not_false, cond_true, Option.bind_some]
          exact fin _ HM (hsub _ hk) (by omega)
        · simp only [I.putL, hf1, if_pos hfull, if_neg ha, letJ, Option.isSome_none, bne_self_eq_false, Bool.or_self, cond_false, show ((4 : Int) != 0) = true from rfl, cond_true]
          rw [hfull, bne_self_eq_false, cond_false]
          exact tail _ _ _ H1
      · have hlt : (L1.length : Int) < N := by have := H1.len; omega
        simp only [I.putL, hf1, if_neg hfull, bne_self_eq_false, cond_false, letJ, Option.isSome_none, Bool.not_false, cond_true, Option.bind_some]
        exact fin _ H1 hk hlt
  · have b1 : (o.Kind == 1) = false := by simpa using k1
    rw [b1, cond_false]
    have hpg : I.pinG L = some () := if_pos fun e he => ⟨(H.pins e he).1, by have := (H.pins e he).2; omega⟩
    -- an entry is turned
    have turn : ∀ (f : I.Ent → I.Ent) (x : Int) (e : I.Ent), I.fnd o.K L = some e → (f e).key = e.key → (f e).val = e.val → 0 ≤ (f e).pins ∧ (f e).pins ≤ (i + 1 : Nat) → x = hvE (f e) →
        ∃ L3 last3 held3, J2 (I.upk o.K f L, last, held.put o.K x) = rec (L3, last3, held3, ((i + 1 : Nat) : Int)) ∧ KInv (i + 1) N L3 last3 held3 := by
      intro f x e hf hfk hfv hfp hx
      obtain ⟨l1, l2, rfl, hek, hl1⟩ := fnd_split hf
      rw [upk_mid hek H.nd]
      refine tail _ _ _ (KInv.set H.step hfk hfp H.wl (H.wh.put _ _) (fun q hq => rfl) (fun q hq => ?_) ?_ ?_)
      · rw [PM.get_put, if_neg (by rw [← hek]; exact hq)]
      · rw [hfv]; exact H.la e (by simp)
      · rw [PM.get_put, if_pos hek]; exact hx
    have info : ∀ e, I.fnd o.K L = some e → 0 ≤ e.pins ∧ e.pins ≤ i ∧ (held.get o.K).getD 0 = hvE e := fun e hf => by
      obtain ⟨h1, h2⟩ := (fnd_iff H.nd).1 hf
      exact ⟨(H.pins e h1).1, (H.pins e h1).2, by rw [← h2]; exact H.he e h1⟩
    by_cases k3 : o.Kind = 3
    · rw [k3, beq_self_eq_true, cond_true, hpg, Option.bind_some, Option.bind_some]
      cases hf : I.fnd o.K L with
      | none =>
        simp only [I.pinB, hf, cond_false, Bool.false_eq_true, if_false]
        exact tail _ _ _ H.step
      | some e =>
        obtain ⟨q1, q2, q3⟩ := info e hf
        have := hvE_le q2
        have := hvE_nn q1
        simp only [I.pinB, hf, cond_true, if_true, Option.bind_some, q3]
        rw [w64 (by omega) (by omega)]
        exact turn _ _ e hf rfl rfl ⟨by simp only; omega, by simp only; omega⟩ (by simp only [hvE]; omega)
    have b3 : (o.Kind == 3) = false := by simpa using k3
    rw [b3, cond_false]
    by_cases k4 : o.Kind = 4
    · rw [k4, beq_self_eq_true, cond_true, hpg, Option.bind_some, Option.bind_some]
      cases hf : I.fnd o.K L with
      | none =>
        simp only [I.unpinB, hf, cond_false, Bool.false_eq_true, if_false]
        exact tail _ _ _ H.step
      | some e =>
        obtain ⟨q1, q2, q3⟩ := info e hf
        have := hvE_le q2
        have := hvE_nn q1
        by_cases hp : e.pins = 0
        · simp only [I.unpinB, hf, hp, decide_true, Bool.not_true, cond_false, Bool.false_eq_true, if_false]
          exact tail _ _ _ H.step
        · simp only [I.unpinB, hf, hp, decide_false, Bool.not_false, cond_true, if_true, Option.bind_some, q3]
          rw [w64 (by omega) (by omega)]
          exact turn _ _ e hf rfl rfl ⟨by simp only; omega, by simp only; omega⟩ (by simp only [hvE]; omega)
    have b4 : (o.Kind == 4) = false := by simpa using k4
    rw [b4, cond_false]
    by_cases k5 : o.Kind = 5
    · rw [k5, beq_self_eq_true, cond_true, Option.bind_some]
      cases hf : I.fnd o.K L with
      | none =>
        simp only [I.cleanB, hf, cond_false, Bool.false_eq_true, if_false]
        exact tail _ _ _ H.step
      | some e =>
        obtain ⟨q1, q2, q3⟩ := info e hf
        have := hvE_le q2
        have := hvE_nn q1
        cases hd : e.dirty with
        | false =>
          simp only [I.cleanB, hf, hd, cond_false, Bool.false_eq_true, if_false]
          exact tail _ _ _ H.step
        | true =>
          simp only [I.cleanB, hf, hd, cond_true, if_true, Option.bind_some, q3]
          rw [w64 (by omega) (by omega)]
          exact turn _ _ e hf rfl rfl ⟨by simp only; omega, by simp only; omega⟩ (by simp only [hvE, hd]; simp)
    have b5 : (o.Kind == 5) = false := by simpa using k5
    rw [b5, cond_false]
    exact tail _ _ _ H.step

theorem keeps (p0 : Int) (p1 : List T_lecternlaw16_Op) : F_lecternlaw16_CacheKeeps p0 p1 = some true := by
  have hm : 0 ≤ Int.tmod (IntKind.wrap .u64 p0) 20 ∧ Int.tmod (IntKind.wrap .u64 p0) 20 < 20 := ⟨Int.tmod_nonneg _ (wu64 p0).1, Int.tmod_lt_of_pos _ (by decide)⟩
  unfold F_lecternlaw16_CacheKeeps
  rw [w64 (x := Int.tmod (IntKind.wrap .u64 p0) 20) (by omega) (by omega), w64 (x := 1 + Int.tmod (IntKind.wrap .u64 p0) 20) (by omega) (by omega)]
  rw [decide_eq_true (by omega), decide_eq_true (by omega : 1 + Int.tmod (IntKind.wrap .u64 p0) 20 ≤ 65536), Bool.and_self, cond_true, bne_self_eq_false, cond_false]
  obtain ⟨o, h1, L, last, held, j, h2, hI⟩ := iter_spec (b := F_lecternlaw16_CacheKeeps_l0 p0 p1) (fun i x => ∃ L last held, x = (L, last, held, (i : Int)) ∧ KInv i (1 + Int.tmod (IntKind.wrap .u64 p0) 20) L last held)
    (fun o => ∃ L last held, ∃ j : Nat, o = .inl (L, last) ∧ KInv j (1 + Int.tmod (IntKind.wrap .u64 p0) 20) L last held) (min p1.length 300) (x0 := (([] : List I.Ent), (pm0 : PM Int Int), (pm0 : PM Int Int), (0 : Int)))
    ⟨[], pm0, pm0, rfl, by simp, by simp; omega, by simp, pm0_wf, pm0_wf, by simp, by simp, fun k _ => by simp [PM.get, pm0]⟩
    (fun i x rec hi ⟨L, last, held, hx, hI⟩ => .inl (by
      subst hx
      obtain ⟨L2, last2, held2, e, H2⟩ := keeps_step p0 p1 _ rfl (by omega) (by omega) hI (by omega) (by omega) rec
      exact ⟨_, e, _, _, _, rfl, H2⟩))
    (fun x rec ⟨L, last, held, hx, hI⟩ => ⟨.inl (L, last), by
      subst hx
      unfold F_lecternlaw16_CacheKeeps_l0
      dsimp only
      by_cases hl : p1.length < 300
      · rw [decide_eq_false (by omega), cond_false]
      · by_cases h2 : p1.length = 300
        · rw [decide_eq_false (by omega), cond_false]
        · rw [decide_eq_true (by omega), cond_true]
          simp only [letJ]
          rw [idx_some (by omega), Option.bind_some, decide_eq_true (by omega), cond_true], L, last, held, _, rfl, hI⟩) (n := FUEL) (by unfold FUEL; omega)
  have hL : L.length ≤ 20 := by have := hI.len; omega
  have hg : I.lenG L = some () := if_pos (by omega)
  obtain ⟨M, hM⟩ := last_loop L last hI.nd (by omega) hI.la
  simp only [letJ, h1, h2, Option.bind_some, hg, hM]

theorem keeps_calls (h : Heap) (p0 : Int) (p1 : List T_lecternlaw16_Op) : CallsA Try.prog 4 [.int .i64 p0, .sl 4 (p1.map c_T_lecternlaw16_Op) 0] h fun d _ => d = .bool true :=
  (F_lecternlaw16_CacheKeeps_w p0 p1 (G := fun r => r = true) h ⟨true, keeps p0 p1, rfl⟩).mono fun d h' ⟨r, hr, hd⟩ => by subst hr; exact hd
end Go.Proofs.Ytcjndiagbdkikaa
