/- CacheOrders: the plain law. No condition. -/
import Derived.Test.YtagdcieobfcpmaaWkO
import Derived.Test.YtagdcieobfcpmaaPl1
set_option linter.unusedSimpArgs false
set_option linter.unusedVariables false
namespace Go.Proofs.Ytagdcieobfcpmaa

theorem same_refl (l : List Int) (hl : l.length < 1000000000) : F_lecternref05_SameInts l l = some true := by
  unfold F_lecternref05_SameInts
  simp only [bne_self_eq_false, cond_false, letJ]
  obtain ⟨o, h1, h2⟩ := iter_spec (b := F_lecternref05_SameInts_l0 l l) (fun i x => x = (i : Int)) (fun o => o = .inl ()) l.length (x0 := (0 : Int)) rfl
    (fun i x rec hi hx => .inl ⟨((i + 1 : Nat) : Int), by
      subst hx
      unfold F_lecternref05_SameInts_l0
      rw [decide_eq_true (by omega), cond_true, idx_some hi, Option.bind_some, Option.bind_some, bne_self_eq_false, cond_false, w64 (by omega) (by omega)]; rfl, rfl⟩)
    (fun x rec hx => ⟨_, by
      subst hx
      unfold F_lecternref05_SameInts_l0
      rw [decide_eq_false (by omega), cond_false], rfl⟩) (n := FUEL) (by unfold FUEL; omega)
  rw [h1, h2]; rfl

/-- The inner loop: all but one key. -/
theorem others (l : List Int) (k : Int) (hl : l.length ≤ 100) : iter (F_lecternlaw16_CacheOrders_l1 l k) FUEL (([] : List Int), (0 : Int)) = some (l.filter (· != k)) := by
  obtain ⟨o, h1, h2⟩ := iter_spec (b := F_lecternlaw16_CacheOrders_l1 l k) (fun i x => x = ((l.take i).filter (· != k), (i : Int))) (fun o => o = l.filter (· != k)) l.length (x0 := (([] : List Int), (0 : Int))) (by simp)
    (fun i x rec hi hx => .inl ⟨((l.take (i + 1)).filter (· != k), ((i + 1 : Nat) : Int)), by
      subst hx
      have hlen : ((l.take i).filter (· != k)).length ≤ 100 := Nat.le_trans (List.length_filter_le _ _) (by simp; omega)
      unfold F_lecternlaw16_CacheOrders_l1
      simp only [letJ]
      rw [decide_eq_true (by omega), cond_true, idx_some hi, Option.bind_some, w64 (by omega) (by omega)]
      rw [List.take_add_one, List.getElem?_eq_getElem hi, Option.toList_some, List.filter_append]
      by_cases e : l[i] = k
      · simp [e]
      · have hb : (l[i] != k) = true := by simpa using e
        rw [hb, cond_true, app_some (by simp at hlen ⊢; omega) (by simp at hlen ⊢; omega), Option.bind_some]
        simp [hb], rfl⟩)
    (fun x rec hx => ⟨_, by
      subst hx
      unfold F_lecternlaw16_CacheOrders_l1
      simp only [letJ]
      rw [decide_eq_false (by omega), cond_false, List.take_length], rfl⟩) (n := FUEL) (by unfold FUEL; omega)
  rw [h1, h2]

/-- What holds of the cache. -/
structure Clean (n : Int) (L : List I.Ent) (want : List Int) : Prop where
  keys : L.map I.Ent.key = want
  nd : want.Nodup
  fr : ∀ e ∈ L, e.dirty = false ∧ e.pins = 0
  len : (L.length : Int) ≤ n

theorem rem_keys {k : Int} : ∀ {L : List I.Ent}, (L.map I.Ent.key).Nodup → (I.rem k L).map I.Ent.key = (L.map I.Ent.key).filter (· != k)
  | [], _ => rfl
  | e :: L, nd => by
    simp only [List.map_cons, List.nodup_cons] at nd
    unfold I.rem
    by_cases h : e.key = k
    · have hb : (e.key == k) = true := by simpa using h
      rw [List.eraseP_cons_of_pos (p := fun e : I.Ent => e.key == k) hb]
      have hall : (L.map I.Ent.key).filter (· != k) = L.map I.Ent.key := List.filter_eq_self.2 fun x hx => by
        have : x ≠ k := fun e2 => nd.1 (by rw [h, ← e2]; exact hx)
        simpa using this
      simp [h, hall]
    · have hb : ¬ (e.key == k) = true := by simpa using h
      rw [List.eraseP_cons_of_neg (p := fun e : I.Ent => e.key == k) hb]
      have := rem_keys (k := k) nd.2
      unfold I.rem at this
      have hn : (e.key != k) = true := by simpa using h
      simp only [List.map_cons, this]
      rw [List.filter_cons_of_pos (p := fun x => x != k) (by simpa using h)]

theorem fnd_mem {k : Int} {L : List I.Ent} {e : I.Ent} (h : I.fnd k L = some e) : e ∈ L ∧ e.key = k := ⟨List.mem_of_find?_eq_some h, by simpa using List.find?_some h⟩
theorem fnd_none {k : Int} {L : List I.Ent} (h : I.fnd k L = none) : k ∉ L.map I.Ent.key := by
  intro hm
  obtain ⟨e, he, hk⟩ := List.mem_map.1 hm
  have := List.find?_eq_none.1 h e he
  simp [hk] at this

theorem orders (p0 : Int) (p1 : List Int) : F_lecternlaw16_CacheOrders p0 p1 = some true := by
  unfold F_lecternlaw16_CacheOrders
  have hu := wu64 p0
  have hm : 0 ≤ Int.tmod (IntKind.wrap .u64 p0) 20 ∧ Int.tmod (IntKind.wrap .u64 p0) 20 < 20 := ⟨Int.tmod_nonneg _ hu.1, Int.tmod_lt_of_pos _ (by decide)⟩
  rw [w64 (x := Int.tmod (IntKind.wrap .u64 p0) 20) (by omega) (by omega), w64 (x := 1 + Int.tmod (IntKind.wrap .u64 p0) 20) (by omega) (by omega)]
  have hn1 : 1 ≤ 1 + Int.tmod (IntKind.wrap .u64 p0) 20 := by omega
  have hn2 : 1 + Int.tmod (IntKind.wrap .u64 p0) 20 ≤ 20 := by omega
  rw [decide_eq_true hn1, decide_eq_true (by omega : 1 + Int.tmod (IntKind.wrap .u64 p0) 20 ≤ 65536), Bool.and_self, cond_true, bne_self_eq_false, Bool.false_or]
  by_cases hl : (300 : Int) < p1.length
  · rw [decide_eq_true hl, cond_true]
  rw [decide_eq_false hl, cond_false]
  simp only [letJ]
  obtain ⟨o, h1, L, want, h2, hC⟩ := iter_spec (b := F_lecternlaw16_CacheOrders_l0 p0 p1) (fun i x => ∃ L want, x = (L, want, (i : Int)) ∧ Clean (1 + Int.tmod (IntKind.wrap .u64 p0) 20) L want)
    (fun o => ∃ L want, o = .inl (L, want) ∧ Clean (1 + Int.tmod (IntKind.wrap .u64 p0) 20) L want) p1.length (x0 := (([] : List I.Ent), ([] : List Int), (0 : Int))) ⟨[], [], rfl, rfl, List.nodup_nil, by simp, by simp; omega⟩
    (fun i x rec hi ⟨L, want, hx, hC⟩ => .inl (by
      subst hx
      have hw : want.length ≤ 20 := by have := hC.len; have h := congrArg List.length hC.keys; simp at h; omega
      unfold F_lecternlaw16_CacheOrders_l0
      simp only [letJ]
      rw [w64 (x := Int.tmod (IntKind.wrap .u64 p0) 20) (by omega) (by omega), w64 (x := 1 + Int.tmod (IntKind.wrap .u64 p0) 20) (by omega) (by omega)]
      rw [decide_eq_true (by omega), cond_true, idx_some hi, Option.bind_some, Option.bind_some, w64 (x := (i : Int) + 1) (by omega) (by omega)]
      rw [others want p1[i] (by omega)]
      simp only [Option.bind_some]
      have hfl := List.length_filter_le (· != p1[i]) want
      rw [app_some (by simp; omega) (by simp; omega)]
      simp only [Option.bind_some]
      generalize hk : p1[i] = k at *
      generalize hN : 1 + Int.tmod (IntKind.wrap .u64 p0) 20 = N at *
      cases hf : I.fnd k L with
      | some e =>
        obtain ⟨he, hek⟩ := fnd_mem hf
        simp only [Option.isSome_some, Bool.not_true, cond_false]
        have hkw : k ∈ want := by rw [← hC.keys, ← hek]; exact List.mem_map_of_mem he
        have hlen : (want.filter (· != k)).length + 1 ≤ want.length := by
          have : (want.filter (· != k)).length < want.length := by
            rw [List.length_filter_lt_length_iff_exists]
            exact ⟨k, hkw, by simp⟩
          omega
        have hLw : want.length = L.length := by rw [← hC.keys]; simp
        have hlen2 := hC.len
        rw [decide_eq_false (by simp; omega), cond_false]
        refine ⟨(_, _, ((i + 1 : Nat) : Int)), rfl, _, _, rfl, ?_, ?_, ?_, ?_⟩
        · simp only [I.usd, hf, List.map_append, List.map_cons, List.map_nil, rem_keys (by rw [hC.keys]; exact hC.nd), hC.keys, hek]
        · rw [List.nodup_append]
          refine ⟨hC.nd.filter _, by simp, fun a ha b hb => ?_⟩
          simp at hb ha; subst hb; exact ha.2
        · intro x hx
          simp only [I.usd, hf, List.mem_append, List.mem_singleton] at hx
          rcases hx with hx | hx
          · exact hC.fr x (List.mem_of_mem_eraseP hx)
          · subst hx; exact hC.fr _ he
        · have h3 : ((I.rem k L).map I.Ent.key).length = (want.filter (· != k)).length := by rw [rem_keys (by rw [hC.keys]; exact hC.nd), hC.keys]
          simp only [List.length_map] at h3
          simp only [I.usd, hf, List.length_append, h3, List.length_cons, List.length_nil]
          omega
      | none =>
        have hkw : k ∉ want := by rw [← hC.keys]; exact fnd_none hf
        have hfw : want.filter (· != k) = want := List.filter_eq_self.2 fun x hx => by
          have : x ≠ k := fun e2 => hkw (by rw [← e2]; exact hx)
          simpa using this
        have hus : I.usd k L = L := by simp only [I.usd, hf]
        have hLw : want.length = L.length := by rw [← hC.keys]; simp
        have hlen2 := hC.len
        simp only [Option.isSome_none, Bool.not_false, cond_true, hus, hfw, I.putL, hf]
        have hnd : (want ++ [k]).Nodup := by
          rw [List.nodup_append]
          refine ⟨hC.nd, by simp, fun a ha b hb => ?_⟩
          simp at hb; subst hb; exact fun e => hkw (by rw [← e]; exact ha)
        by_cases hfull : (L.length : Int) = N
        · rw [if_pos hfull]
          obtain ⟨e0, L', rfl⟩ : ∃ e0 L', L = e0 :: L' := by cases L with | nil => simp at hfull; omega | cons a b => exact ⟨a, b, rfl⟩
          have hfr0 : I.free e0 = true := by have := hC.fr e0 (by simp); simp [I.free, this]
          have hany : (e0 :: L').any I.free = true := by simp [hfr0]
          rw [if_pos hany]
          simp only [bne_self_eq_false, cond_false]
          rw [decide_eq_true (by simp at hLw hfull ⊢; omega), cond_true, slc_tail (by simp), Option.bind_some]
          refine ⟨(_, _, ((i + 1 : Nat) : Int)), rfl, _, _, rfl, ?_, ?_, ?_, ?_⟩
          · rw [List.eraseP_cons_of_pos hfr0, ← hC.keys]; simp
          · exact hnd.sublist (List.tail_sublist _)
          · intro x hx
            rw [List.eraseP_cons_of_pos hfr0] at hx
            simp at hx
            rcases hx with hx | hx
            · exact hC.fr x (by simp [hx])
            · subst hx; exact ⟨rfl, rfl⟩
          · rw [List.eraseP_cons_of_pos hfr0]; simp at hfull ⊢; omega
        · rw [if_neg hfull]
          simp only [bne_self_eq_false, cond_false]
          rw [decide_eq_false (by simp; omega), cond_false]
          refine ⟨(_, _, ((i + 1 : Nat) : Int)), rfl, _, _, rfl, ?_, hnd, ?_, ?_⟩
          · simp [hC.keys]
          · intro x hx
            simp at hx
            rcases hx with hx | hx
            · exact hC.fr x hx
            · subst hx; exact ⟨rfl, rfl⟩
          · simp; omega))
    (fun x rec ⟨L, want, hx, hC⟩ => ⟨_, by
      subst hx
      unfold F_lecternlaw16_CacheOrders_l0
      simp only [letJ]
      rw [decide_eq_false (by omega), cond_false], L, want, rfl, hC⟩) (n := FUEL) (by unfold FUEL; omega)
  rw [h1, h2]
  have hL20 : L.length ≤ 20 := by have := hC.len; omega
  have hk1 : I.keysL true L = want := by rw [← hC.keys]; unfold I.keysL; rw [List.filter_eq_self.2 (by simp)]
  have hk2 : I.keysL false L = [] := by
    simp only [I.keysL, Bool.false_or]
    rw [List.filter_eq_nil_iff.2 fun e he => by rw [(hC.fr e he).1]; simp]; rfl
  have hg : I.lenG L = some () := if_pos (by omega)
  have hw : want.length ≤ 20 := by have h := congrArg List.length hC.keys; simp at h; omega
  simp only [Option.bind_some, hg, hk1, hk2]
  rw [same_refl want (by omega)]
  rfl


theorem orders_calls (h : Heap) (p0 : Int) (p1 : List Int) : CallsA Try.prog 3 [.int .i64 p0, .sl 1 (p1.map c_i64) 0] h fun d _ => d = .bool true :=
  (F_lecternlaw16_CacheOrders_w p0 p1 (G := fun r => r = true) h ⟨true, orders p0 p1, rfl⟩).mono fun d h' ⟨r, hr, hd⟩ => by subst hr; exact hd
end Go.Proofs.Ytagdcieobfcpmaa
