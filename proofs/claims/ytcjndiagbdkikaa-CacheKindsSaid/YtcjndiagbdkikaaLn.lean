/- CacheKinds: the plain law. No condition. -/
import Derived.Test.YtcjndiagbdkikaaWkB
import Derived.Test.YtcjndiagbdkikaaLm
set_option linter.unusedSimpArgs false
set_option linter.unusedVariables false
namespace Go.Proofs.Ytcjndiagbdkikaa

/-- A number of two places, as two flags. -/
def gk (x : Int) : Bool × Bool := (x == 1 || x == 3, x == 2 || x == 3)

theorem and3 (a : Int) : ∃ r : Nat, r < 4 ∧ iand .i64 a 3 = (r : Int) ∧ ((iand .i64 a 1 == 1), (iand .i64 a 2 == 2)) = gk (r : Int) := by
  have key : ∀ m : Nat, m ≤ 3 → 3 &&& m = m → (BitVec.ofInt 64 (m : Int)).toNat = m → iand .i64 a (m : Int) = ((((BitVec.ofInt 64 a).toNat % 4) &&& m : Nat) : Int) := by
    intro m hm h3 hb
    show IntKind.wrap .i64 ((BitVec.ofInt 64 a &&& BitVec.ofInt 64 (m : Int)).toNat : Int) = _
    have e : (BitVec.ofInt 64 a &&& BitVec.ofInt 64 (m : Int)).toNat = ((BitVec.ofInt 64 a).toNat % 4) &&& m := by
      rw [BitVec.toNat_and, hb]
      have e4 : (BitVec.ofInt 64 a).toNat % 4 = (BitVec.ofInt 64 a).toNat &&& 3 := (Nat.and_two_pow_sub_one_eq_mod _ 2).symm
      rw [e4, Nat.and_assoc, h3]
    rw [e]
    have hle : (((BitVec.ofInt 64 a).toNat % 4) &&& m) ≤ m := Nat.and_le_right
    exact w64 (by omega) (by omega)
  have hr : (BitVec.ofInt 64 a).toNat % 4 < 4 := Nat.mod_lt _ (by decide)
  have k1 := key 1 (by decide) (by decide) (by decide)
  have k2 := key 2 (by decide) (by decide) (by decide)
  have k3 := key 3 (by decide) (by decide) (by decide)
  generalize (BitVec.ofInt 64 a).toNat % 4 = r at *
  refine ⟨r, hr, ?_, ?_⟩
  · rw [show (3 : Int) = ((3 : Nat) : Int) from rfl, k3]
    have : r &&& 3 = r := by
      have : r &&& 3 = r % 4 := Nat.and_two_pow_sub_one_eq_mod r 2
      omega
    rw [this]
  · rw [show iand .i64 a 1 = iand .i64 a ((1 : Nat) : Int) from rfl, show iand .i64 a 2 = iand .i64 a ((2 : Nat) : Int) from rfl, k1, k2]
    clear k1 k2 k3 key
    match r, hr with
    | 0, _ => decide
    | 1, _ => decide
    | 2, _ => decide
    | 3, _ => decide
    | r + 4, h => omega

theorem gk_eq {x y : Int} (hx : 0 ≤ x ∧ x ≤ 3) (hy : 0 ≤ y ∧ y ≤ 3) : (gk x == gk y) = (x == y) := by
  obtain ⟨m, rfl⟩ := Int.eq_ofNat_of_zero_le hx.1
  obtain ⟨n, rfl⟩ := Int.eq_ofNat_of_zero_le hy.1
  have hm : m ≤ 3 := by omega
  have hn : n ≤ 3 := by omega
  clear hx hy
  revert hm hn
  match m, n with
  | 0, 0 => decide
  | 0, 1 => decide
  | 0, 2 => decide
  | 0, 3 => decide
  | 1, 0 => decide
  | 1, 1 => decide
  | 1, 2 => decide
  | 1, 3 => decide
  | 2, 0 => decide
  | 2, 1 => decide
  | 2, 2 => decide
  | 2, 3 => decide
  | 3, 0 => decide
  | 3, 1 => decide
  | 3, 2 => decide
  | 3, 3 => decide
  | m + 4, _ => intro h; omega
  | _, n + 4 => intro _ h; omega

def tb (e : I.Ent) : B.Ent := ⟨gk e.key, some e.val, e.dirty, e.pins⟩

/-- What holds of the first cache. -/
structure NInv (i : Nat) (N : Int) (L : List I.Ent) : Prop where
  dom : ∀ e ∈ L, 0 ≤ e.key ∧ e.key ≤ 3
  len : (L.length : Int) ≤ N
  pins : ∀ e ∈ L, 0 ≤ e.pins ∧ e.pins ≤ i
  nd : (L.map I.Ent.key).Nodup
theorem NInv.step {i : Nat} {N : Int} {L : List I.Ent} (H : NInv i N L) : NInv (i + 1) N L := ⟨H.dom, H.len, fun e he => ⟨(H.pins e he).1, by have := (H.pins e he).2; omega⟩, H.nd⟩

section
variable {L : List I.Ent} {k : Int} (hd : ∀ e ∈ L, 0 ≤ e.key ∧ e.key ≤ 3) (hk : 0 ≤ k ∧ k ≤ 3)
include hd hk
theorem tb_fnd : B.fnd (gk k) (L.map tb) = (I.fnd k L).map tb := by
  induction L with
  | nil => rfl
  | cons e L ih =>
    have ih := ih fun x hx => hd x (List.mem_cons_of_mem _ hx)
    simp only [B.fnd, I.fnd, List.map_cons, List.find?_cons] at ih ⊢
    have e1 : ((tb e).key == gk k) = (e.key == k) := gk_eq (hd e (by simp)) hk
    rw [e1]
    cases e.key == k with
    | true => rfl
    | false => exact ih
theorem tb_rem : B.rem (gk k) (L.map tb) = (I.rem k L).map tb := by
  induction L with
  | nil => rfl
  | cons e L ih =>
    have ih := ih fun x hx => hd x (List.mem_cons_of_mem _ hx)
    simp only [B.rem, I.rem, List.map_cons, List.eraseP_cons] at ih ⊢
    have e1 : ((tb e).key == gk k) = (e.key == k) := gk_eq (hd e (by simp)) hk
    rw [e1]
    cases e.key == k with
    | true => rfl
    | false => simp only [cond_false, List.map_cons, ih]
theorem tb_usd : B.usd (gk k) (L.map tb) = (I.usd k L).map tb := by
  unfold B.usd I.usd
  rw [tb_fnd hd hk]
  cases I.fnd k L with
  | none => rfl
  | some e => simp only [Option.map_some, tb_rem hd hk, List.map_append, List.map_cons, List.map_nil]
theorem tb_upk (f : I.Ent → I.Ent) (g : B.Ent → B.Ent) (hfg : ∀ e, g (tb e) = tb (f e)) : B.upk (gk k) g (L.map tb) = (I.upk k f L).map tb := by
  unfold B.upk I.upk
  rw [List.map_map, List.map_map]
  refine List.map_congr_left fun e he => ?_
  have e1 : ((tb e).key == gk k) = (e.key == k) := gk_eq (hd e he) hk
  simp only [Function.comp]
  by_cases h : e.key = k
  · have : (tb e).key = gk k := by rw [← h]; rfl
    rw [if_pos h, if_pos this, hfg]
  · have : ¬ (tb e).key = gk k := by
      have hb : (e.key == k) = false := by simpa using h
      rw [hb] at e1; simpa using e1
    rw [if_neg h, if_neg this]
omit hd hk in
theorem tb_free (e : I.Ent) : B.free (tb e) = I.free e := rfl
omit hd hk in
theorem tb_any : (L.map tb).any B.free = L.any I.free := by rw [List.any_map]; rfl
omit hd hk in
theorem tb_erase : (L.map tb).eraseP B.free = (L.eraseP I.free).map tb := by
  induction L with
  | nil => rfl
  | cons e L ih =>
    simp only [List.map_cons, List.eraseP_cons, tb_free, ih]
    cases I.free e <;> rfl
theorem tb_put (v : Int) (b : Bool) (N : Int) : B.putL (gk k) (some v) b N (L.map tb) = ((I.putL k v b N L).1, (I.putL k v b N L).2.map tb) := by
  unfold B.putL I.putL
  rw [tb_fnd hd hk, List.length_map, tb_any, tb_erase]
  cases I.fnd k L with
  | some e => simp only [Option.map_some, tb_rem hd hk, List.map_append, List.map_cons, List.map_nil]; rfl
  | none =>
    simp only [Option.map_none]
    split
    · split
      · simp only [List.map_append, List.map_cons, List.map_nil]; rfl
      · rfl
    · simp only [List.map_append, List.map_cons, List.map_nil]; rfl
theorem tb_drop : B.dropB (gk k) (L.map tb) = I.dropB k L := by
  unfold B.dropB I.dropB
  rw [tb_fnd hd hk]
  cases I.fnd k L <;> rfl
theorem tb_pin : B.pinB (gk k) (L.map tb) = I.pinB k L := by
  unfold B.pinB I.pinB
  rw [tb_fnd hd hk]
  cases I.fnd k L <;> rfl
theorem tb_unpin : B.unpinB (gk k) (L.map tb) = I.unpinB k L := by
  unfold B.unpinB I.unpinB
  rw [tb_fnd hd hk]
  cases I.fnd k L <;> rfl
theorem tb_clean : B.cleanB (gk k) (L.map tb) = I.cleanB k L := by
  unfold B.cleanB I.cleanB
  rw [tb_fnd hd hk]
  cases I.fnd k L <;> rfl
end
theorem tb_keys (all : Bool) (L : List I.Ent) : (B.keysL all (L.map tb)).length = (I.keysL all L).length := by
  unfold B.keysL I.keysL
  rw [List.length_map, List.length_map, List.filter_map, List.length_map]
  rfl

/-! what the operations keep -/
theorem mem_rem {k : Int} {L : List I.Ent} {e : I.Ent} (h : e ∈ I.rem k L) : e ∈ L := List.mem_of_mem_eraseP h
theorem NInv.usd {i : Nat} {N k : Int} {L : List I.Ent} (H : NInv i N L) : NInv i N (I.usd k L) := by
  have hp := usd_perm k L
  exact ⟨fun e he => H.dom e (hp.mem_iff.1 he), by rw [hp.length_eq]; exact H.len, fun e he => H.pins e (hp.mem_iff.1 he), ((hp.map _).nodup_iff).2 H.nd⟩
theorem rem_keys {k : Int} : ∀ {L : List I.Ent}, (L.map I.Ent.key).Nodup → (I.rem k L).map I.Ent.key = (L.map I.Ent.key).filter (· != k)
  | [], _ => rfl
  | e :: L, nd => by
    simp only [List.map_cons, List.nodup_cons] at nd
    unfold I.rem
    by_cases h : e.key = k
    · have hb : (e.key == k) = true := by simpa using h
      rw [List.eraseP_cons_of_pos (p := fun e : I.Ent => e.key == k) hb]
      have hall : (L.map I.Ent.key).filter (· != k) = L.map I.Ent.key := List.filter_eq_self.2 fun x hx => by
        have : x ≠ k := fun e2 => nd.1 (by rw [h, ← e2]; exact hx)
        simpa using this
      simp [h, hall]
    · have hb : ¬ (e.key == k) = true := by simpa using h
      rw [List.eraseP_cons_of_neg (p := fun e : I.Ent => e.key == k) hb]
      have := rem_keys (k := k) nd.2
      unfold I.rem at this
      have hn : (e.key != k) = true := by simpa using h
      simp only [List.map_cons, this]
      rw [List.filter_cons_of_pos (p := fun x => x != k) (by simpa using h)]
theorem NInv.upk {i : Nat} {N k : Int} {L : List I.Ent} {f : I.Ent → I.Ent} (H : NInv i N L) (hk : ∀ e, (f e).key = e.key) (hp : ∀ e ∈ L, e.key = k → 0 ≤ (f e).pins ∧ (f e).pins ≤ (i + 1 : Nat)) : NInv (i + 1) N (I.upk k f L) := by
  have hm : ∀ x ∈ I.upk k f L, ∃ e ∈ L, (x = e ∨ e.key = k ∧ x = f e) := fun x hx => by
    obtain ⟨e, he, rfl⟩ := List.mem_map.1 hx
    refine ⟨e, he, ?_⟩
    by_cases h : e.key = k
    · right; exact ⟨h, if_pos h⟩
    · left; exact if_neg h
  have hkm : (I.upk k f L).map I.Ent.key = L.map I.Ent.key := by
    unfold I.upk
    rw [List.map_map]
    refine List.map_congr_left fun e _ => ?_
    simp only [Function.comp]
    split <;> simp [hk]
  refine ⟨fun x hx => ?_, by unfold I.upk; rw [List.length_map]; exact H.len, fun x hx => ?_, by rw [hkm]; exact H.nd⟩
  · obtain ⟨e, he, h | ⟨_, h⟩⟩ := hm x hx
    · rw [h]; exact H.dom e he
    · rw [h, hk]; exact H.dom e he
  · obtain ⟨e, he, h | ⟨h1, h⟩⟩ := hm x hx
    · rw [h]; exact H.step.pins e he
    · rw [h]; exact hp e he h1
theorem NInv.put {i : Nat} {N k v : Int} {b : Bool} {L : List I.Ent} (H : NInv i N L) (hk : 0 ≤ k ∧ k ≤ 3) : NInv (i + 1) N (I.putL k v b N L).2 := by
  have add : ∀ (M : List I.Ent) (e : I.Ent), (∀ x ∈ M, x ∈ L) → ((M.length : Int) + 1 ≤ N) → (0 ≤ e.key ∧ e.key ≤ 3) → (0 ≤ e.pins ∧ e.pins ≤ (i + 1 : Nat)) → (M.map I.Ent.key).Nodup → e.key ∉ M.map I.Ent.key → NInv (i + 1) N (M ++ [e]) := fun M e hm hl h1 h2 h3 h4 => by
    refine ⟨fun x hx => ?_, by simp; omega, fun x hx => ?_, ?_⟩
    · rcases List.mem_append.1 hx with h | h
      · exact H.dom x (hm x h)
      · simp at h; subst h; exact h1
    · rcases List.mem_append.1 hx with h | h
      · exact H.step.pins x (hm x h)
      · simp at h; subst h; exact h2
    · rw [List.map_append]
      refine List.nodup_append.2 ⟨h3, by simp, fun a ha c hc e2 => ?_⟩
      simp at hc; subst hc; subst e2; exact h4 ha
  have hlen := H.len
  unfold I.putL
  cases hf : I.fnd k L with
  | some e =>
    have he : e ∈ L := List.mem_of_find?_eq_some hf
    have hk2 : e.key = k := by simpa using List.find?_some hf
    have hl := List.length_eraseP_of_mem (p := fun e : I.Ent => e.key == k) he (by simpa using hk2)
    have h0 : 0 < L.length := List.length_pos_of_mem he
    refine add _ _ (fun x hx => mem_rem hx) ?_ (H.dom e he) (H.step.pins e he) (by rw [rem_keys H.nd]; exact H.nd.filter _) (by rw [rem_keys H.nd]; simp [hk2])
    show ((L.eraseP fun e => e.key == k).length : Int) + 1 ≤ N
    omega
  | none =>
    have hno : k ∉ L.map I.Ent.key := fnd_no.1 hf
    simp only
    split
    · split
      · rename_i ha
        obtain ⟨x, hx, hfx⟩ := List.any_eq_true.1 ha
        have hl := List.length_eraseP_of_mem (p := I.free) hx hfx
        have h0 : 0 < L.length := List.length_pos_of_mem hx
        exact add _ _ (fun x hx => List.mem_of_mem_eraseP hx) (by omega) hk ⟨by simp, by simp; omega⟩ (H.nd.sublist (List.Sublist.map _ List.eraseP_sublist)) (fun h => hno ((List.Sublist.map _ List.eraseP_sublist).subset h))
      · exact H.step
    · exact add _ _ (fun x hx => hx) (by omega) hk ⟨by simp, by simp; omega⟩ H.nd hno

theorem letJ_gen {α β : Type} {K : α → Option β} {f : (α → Option β) → Option β} {P : Option β → Prop} (h : ∀ J, J = K → P (f J)) : P (letJ K f) := h K rfl

theorem kinds_step (p0 : Int) (p1 : List T_lecternlaw16_Op) (N : Int) (hN : 1 + Int.tmod (IntKind.wrap .u64 p0) 20 = N) (h1N : 1 ≤ N) (h20 : N ≤ 20) {i : Nat} {L : List I.Ent} (H : NInv i N L) (hi : i < p1.length) (h200 : i < 200)
    (rec : (List I.Ent × List B.Ent) × Int → Option (((List I.Ent × List B.Ent)) ⊕ Bool)) :
    ∃ L2, F_lecternlaw16_CacheKinds_l0 p0 p1 rec ((L, L.map tb), (i : Int)) = rec ((L2, L2.map tb), ((i + 1 : Nat) : Int)) ∧ NInv (i + 1) N L2 := by
  have hm : 0 ≤ Int.tmod (IntKind.wrap .u64 p0) 20 ∧ Int.tmod (IntKind.wrap .u64 p0) 20 < 20 := ⟨Int.tmod_nonneg _ (wu64 p0).1, Int.tmod_lt_of_pos _ (by decide)⟩
  unfold F_lecternlaw16_CacheKinds_l0
  dsimp only
  rw [w64 (x := Int.tmod (IntKind.wrap .u64 p0) 20) (by omega) (by omega), w64 (x := 1 + Int.tmod (IntKind.wrap .u64 p0) 20) (by omega) (by omega), hN]
  rw [decide_eq_true (by omega), cond_true, idx_some hi, Option.bind_some, decide_eq_false (by omega), cond_false]
  refine letJ_gen (P := fun r => ∃ L2, r = rec ((L2, L2.map tb), ((i + 1 : Nat) : Int)) ∧ NInv (i + 1) N L2) fun J hJ => ?_
  have tail : ∀ L2, NInv (i + 1) N L2 → ∃ L3, J (L2, L2.map tb) = rec ((L3, L3.map tb), ((i + 1 : Nat) : Int)) ∧ NInv (i + 1) N L3 := by
    intro L2 H2
    subst hJ
    have hL := H2.len
    have hg : I.lenG L2 = some () := if_pos (by omega)
    have hg2 : B.lenG (L2.map tb) = some () := if_pos (by rw [List.length_map]; omega)
    have hka : (I.keysL true L2).length = L2.length := by unfold I.keysL; rw [List.filter_eq_self.2 (by simp), List.length_map]
    refine ⟨L2, ?_, H2⟩
    simp only [letJ, hg, hg2, Option.bind_some, List.length_map, tb_keys, hka, bne_self_eq_false, cond_false]
    rw [w64 (by omega) (by omega)]
    rfl
  clear hJ
  generalize p1[i] = o
  obtain ⟨r, hr, hr3, hrg⟩ := and3 o.K
  rw [hr3]
  have hk : 0 ≤ (r : Int) ∧ (r : Int) ≤ 3 := by omega
  simp only [hrg]
  generalize (r : Int) = x at hk
  have hd := H.dom
  have hpg : I.pinG L = some () := if_pos fun e he => ⟨(H.pins e he).1, by have := (H.pins e he).2; omega⟩
  have hpg2 : B.pinG (L.map tb) = some () := if_pos fun e he => by
    obtain ⟨e0, he0, rfl⟩ := List.mem_map.1 he
    exact ⟨(H.pins e0 he0).1, by have := (H.pins e0 he0).2; show e0.pins ≤ _; omega⟩
  by_cases k0 : o.Kind = 0
  · rw [k0, beq_self_eq_true, cond_true]
    simp only [Option.bind_some, tb_usd hd hk, tb_fnd hd hk, letJ]
    have HU := (H.usd (k := x)).step
    cases hf : I.fnd x L with
    | none => exact tail _ HU
    | some e =>
      have h1 : (tb e).val = some e.val := rfl
      simp only [Option.map_some, Option.isSome_some, beq_self_eq_true, Bool.not_true, cond_false, cond_true, Option.toList_some, List.length_cons, List.length_nil, Option.getD_some]
      have h2 : idx [e.val] (0 : Int) = some e.val := rfl
      simp only [h1, Option.toList_some, List.length_cons, List.length_nil, h2, Option.bind_some, bne_self_eq_false, Bool.false_and, Bool.or_self, cond_false, cond_true]
      exact tail _ HU
  have b0 : (o.Kind == 0) = false := by simpa using k0
  rw [b0, cond_false]
  by_cases k1 : o.Kind = 1
  · rw [k1, beq_self_eq_true, cond_true]
    simp only [Option.bind_some, tb_put hd hk, bne_self_eq_false, cond_false]
    exact tail _ (H.put hk)
  have b1 : (o.Kind == 1) = false := by simpa using k1
  rw [b1, cond_false]
  by_cases k2 : o.Kind = 2
  · rw [k2, beq_self_eq_true, cond_true]
    simp only [Option.bind_some, tb_drop hd hk, tb_rem hd hk, beq_self_eq_true, Bool.not_true, cond_false]
    have e : (if I.dropB x L = true then (I.rem x L).map tb else L.map tb) = (if I.dropB x L = true then I.rem x L else L).map tb := by split <;> rfl
    rw [e]
    refine tail _ ?_
    split
    · have hle : (I.rem x L).length ≤ L.length := List.length_eraseP_le
      exact ⟨fun y hy => H.dom y (mem_rem hy), by have := H.len; omega, fun y hy => H.step.pins y (mem_rem hy), by rw [rem_keys H.nd]; exact H.nd.filter _⟩
    · exact H.step
  have b2 : (o.Kind == 2) = false := by simpa using k2
  rw [b2, cond_false]
  by_cases k3 : o.Kind = 3
  · rw [k3, beq_self_eq_true, cond_true]
    simp only [hpg, hpg2, Option.bind_some, tb_pin hd hk, tb_upk hd hk (fun e => { e with pins := e.pins + 1 }) (fun e => { e with pins := e.pins + 1 }) (fun e => rfl), beq_self_eq_true, Bool.not_true, cond_false]
    have e : (if I.pinB x L = true then (I.upk x (fun e => { e with pins := e.pins + 1 }) L).map tb else L.map tb) = (if I.pinB x L = true then I.upk x (fun e => { e with pins := e.pins + 1 }) L else L).map tb := by split <;> rfl
    rw [e]
    refine tail _ ?_
    split
    · exact H.upk (fun e => rfl) fun e he _ => by have := H.pins e he; simp only; omega
    · exact H.step
  have b3 : (o.Kind == 3) = false := by simpa using k3
  rw [b3, cond_false]
  by_cases k4 : o.Kind = 4
  · rw [k4, beq_self_eq_true, cond_true]
    simp only [hpg, hpg2, Option.bind_some, tb_unpin hd hk, tb_upk hd hk (fun e => { e with pins := e.pins - 1 }) (fun e => { e with pins := e.pins - 1 }) (fun e => rfl), beq_self_eq_true, Bool.not_true, cond_false]
    have e : (if I.unpinB x L = true then (I.upk x (fun e => { e with pins := e.pins - 1 }) L).map tb else L.map tb) = (if I.unpinB x L = true then I.upk x (fun e => { e with pins := e.pins - 1 }) L else L).map tb := by split <;> rfl
    rw [e]
    refine tail _ ?_
    split
    · rename_i hu
      refine H.upk (fun e => rfl) fun e he hek => ?_
      have hf := (fnd_iff (k := x) H.nd).2 ⟨he, hek⟩
      simp only [I.unpinB, hf, Bool.not_eq_true', decide_eq_false_iff_not] at hu
      have := H.pins e he
      simp only; omega
    · exact H.step
  have b4 : (o.Kind == 4) = false := by simpa using k4
  rw [b4, cond_false]
  by_cases k5 : o.Kind = 5
  · rw [k5, beq_self_eq_true, cond_true]
    simp only [Option.bind_some, tb_clean hd hk, tb_upk hd hk (fun e => { e with dirty := false }) (fun e => { e with dirty := false }) (fun e => rfl), beq_self_eq_true, Bool.not_true, cond_false]
    have e : (if I.cleanB x L = true then (I.upk x (fun e => { e with dirty := false }) L).map tb else L.map tb) = (if I.cleanB x L = true then I.upk x (fun e => { e with dirty := false }) L else L).map tb := by split <;> rfl
    rw [e]
    refine tail _ ?_
    split
    · exact H.upk (fun e => rfl) fun e he _ => by have := H.pins e he; simp only; omega
    · exact H.step
  have b5 : (o.Kind == 5) = false := by simpa using k5
  rw [b5, cond_false]
  exact tail _ H.step

theorem kinds (p0 : Int) (p1 : List T_lecternlaw16_Op) : F_lecternlaw16_CacheKinds p0 p1 = some true := by
  have hm : 0 ≤ Int.tmod (IntKind.wrap .u64 p0) 20 ∧ Int.tmod (IntKind.wrap .u64 p0) 20 < 20 := ⟨Int.tmod_nonneg _ (wu64 p0).1, Int.tmod_lt_of_pos _ (by decide)⟩
  unfold F_lecternlaw16_CacheKinds
  rw [w64 (x := Int.tmod (IntKind.wrap .u64 p0) 20) (by omega) (by omega), w64 (x := 1 + Int.tmod (IntKind.wrap .u64 p0) 20) (by omega) (by omega)]
  rw [decide_eq_true (by omega), decide_eq_true (by omega : 1 + Int.tmod (IntKind.wrap .u64 p0) 20 ≤ 65536), Bool.and_self, cond_true, cond_true, bne_self_eq_false, Bool.or_self, cond_false]
  obtain ⟨o, h1, L, h2⟩ := iter_spec (b := F_lecternlaw16_CacheKinds_l0 p0 p1) (fun i x => ∃ L, x = ((L, L.map tb), (i : Int)) ∧ NInv i (1 + Int.tmod (IntKind.wrap .u64 p0) 20) L)
    (fun o => ∃ L, o = .inl L) (min p1.length 200) (x0 := ((([], []) : List I.Ent × List B.Ent), (0 : Int)))
    ⟨[], rfl, by simp, by simp; omega, by simp, by simp⟩
    (fun i x rec hi ⟨L, hx, hI⟩ => .inl (by
      subst hx
      obtain ⟨L2, e, H2⟩ := kinds_step p0 p1 _ rfl (by omega) (by omega) hI (by omega) (by omega) rec
      exact ⟨_, e, _, rfl, H2⟩))
    (fun x rec ⟨L, hx, hI⟩ => ⟨.inl (L, L.map tb), by
      subst hx
      unfold F_lecternlaw16_CacheKinds_l0
      dsimp only
      by_cases hl : p1.length < 200
      · rw [decide_eq_false (by omega), cond_false]
      · by_cases h2 : p1.length = 200
        · rw [decide_eq_false (by omega), cond_false]
        · rw [decide_eq_true (by omega), cond_true]
          rw [idx_some (by omega), Option.bind_some, decide_eq_true (by omega), cond_true], _, rfl⟩) (n := FUEL) (by unfold FUEL; omega)
  simp only [letJ, h1, h2, Option.bind_some]

theorem kinds_calls (h : Heap) (p0 : Int) (p1 : List T_lecternlaw16_Op) : CallsA Try.prog 6 [.int .i64 p0, .sl 4 (p1.map c_T_lecternlaw16_Op) 0] h fun d _ => d = .bool true :=
  (F_lecternlaw16_CacheKinds_w p0 p1 (G := fun r => r = true) h ⟨true, kinds p0 p1, rfl⟩).mono fun d h' ⟨r, hr, hd⟩ => by subst hr; exact hd
end Go.Proofs.Ytcjndiagbdkikaa
