/- Two caches at once, within a walk: one of numbers, one of pairs of flags. No condition. -/
import Derived.Test.YtcjndiagbdkikaaCf
import Derived.Test.YtcjndiagbdkikaaCbB
set_option linter.unusedSimpArgs false
set_option linter.unusedVariables false
namespace Go.Proofs.Ytcjndiagbdkikaa

theorem b_ar {P : Program} {t e : TypeId} {k n : Nat} {z cs : List D} {parts : List (Nat × D)} (hz : zcD P t = some z) (hp : plD P t = none) (ha : arD P t = some (n, e)) (hs : szD P e = some k) (hf : fillD (fun i => some (i * k, k)) z parts = some cs) : buildD P t parts = some (.agg cs) := by
  simp only [buildD, hz, hp, ha, hs, hf]; rfl

namespace B
theorem CaL.congr {h h' : Heap} {c : Nat} {F : List Nat} {n : Int} {L : List Ent} (H : CaL h c F n L) (he : ∀ i ∈ F, h' i = h i) : CaL h' c F n L := by
  obtain ⟨m, r, ids, en, H, rfl, rfl⟩ := H
  refine ⟨m, r, ids, en, ⟨?_, ?_, ?_, H.ky⟩, rfl, rfl⟩
  · rw [he c (by simp)]; exact H.hc
  · obtain ⟨mes, clock, pr, a, b⟩ := H.mp
    exact ⟨mes, clock, pr, by rw [he m (by simp)]; exact a, b⟩
  · obtain ⟨pv, nx, R⟩ := H.rg
    exact ⟨pv, nx, fun y hy => by rw [he y (List.mem_cons_of_mem _ (List.mem_cons_of_mem _ hy))]; exact R.nd y hy, R.ch, R.un⟩
theorem CaL.dom {h : Heap} {c : Nat} {F : List Nat} {n : Int} {L : List Ent} (H : CaL h c F n L) : ∀ i ∈ F, h i ≠ none := by
  obtain ⟨m, r, ids, en, H, rfl, rfl⟩ := H
  intro i hi
  rcases List.mem_cons.1 hi with rfl | hi
  · rw [H.hc]; simp
  · rcases List.mem_cons.1 hi with rfl | hi
    · obtain ⟨mes, clock, pr, a, b⟩ := H.mp; rw [a]; simp
    · obtain ⟨pv, nx, R⟩ := H.rg; rw [R.nd i hi]; simp
theorem CaL.up {h : Heap} {c : Nat} {F : List Nat} {n : Int} {L : List Ent} {O : List (Nat × AObj)} (H : CaL h c F n L) (ok : OK h O) : CaL (Hp h O) c F n L := H.congr fun i hi => Hp_base ok (H.dom i hi)
def pinG (L : List Ent) : Option Unit := if ∀ e ∈ L, 0 ≤ e.pins ∧ e.pins ≤ 1000000000 then some () else none
def lenG (L : List Ent) : Option Unit := if L.length ≤ 1000000 then some () else none
theorem G_pin {β : Type} {L : List Ent} {f : Unit → Option β} {G : β → Prop} (hF : OptP ((pinG L).bind f) G) : (∀ e ∈ L, 0 ≤ e.pins ∧ e.pins ≤ 1000000000) ∧ OptP (f ()) G := by
  unfold pinG at hF
  split at hF
  · rename_i h; exact ⟨h, hF⟩
  · exact F_none hF
theorem G_len {β : Type} {L : List Ent} {f : Unit → Option β} {G : β → Prop} (hF : OptP ((lenG L).bind f) G) : L.length ≤ 1000000 ∧ OptP (f ()) G := by
  unfold lenG at hF
  split at hF
  · rename_i h; exact ⟨h, hF⟩
  · exact F_none hF
section
variable {md : Nat → Nat} {w : Bool} {ops : Array Oper} {os : List Oper} {kk : St → Prop} {n : Nat} {l : List (Nat × D)} {h : Heap} {d : Nat} {t ty : TypeId} {pos : String} {af : Array Edge} {x y z u : Operand} {ts : Array TypeId} {O : List (Nat × AObj)}
theorem S_new {nn : Int} {β : Type} {G : β → Prop} {X Y : Option β} (ok : OK h O) (hx : opL n l x = .int .i64 nn) (hF : OptP (cond (decide (1 ≤ nn) && decide (nn ≤ 65536)) X Y) G)
    (h1 : ∀ c h' F, OK h' O → CaL h' c F nn [] → OptP X G → seqQ Try.prog md w ops os ⟨mkSl n ((d, .tup [.ptr c 0, .int .i64 0]) :: l), Hp h' O⟩ kk)
    (h2 : OptP Y G → seqQ Try.prog md w ops os ⟨mkSl n ((d, .tup [.nilp, .int .i64 1]) :: l), Hp h O⟩ kk) :
    seqQ Try.prog md w ops (⟨some d, .call ⟨.value (.func 21), #[x], ts⟩, ty, pos, af, none⟩ :: os) ⟨mkSl n l, Hp h O⟩ kk := by
  have hds : (#[x] : Array Operand).toList.map (opL n l) = [.int .i64 nn] := by simp [hx]
  rcases F_cond hF with ⟨hb, hX⟩ | ⟨hb, hY⟩
  · simp only [Bool.and_eq_true, decide_eq_true_eq] at hb
    refine S_call ((new_calls (Hp h O) nn hb.1 hb.2).mono fun d2 h2' ⟨c, F, e, hC, fr⟩ => ?_) (by rw [hds]; exact .refl _)
    subst e
    obtain ⟨hb', rfl, ok', e3⟩ := abs_step ok (F := []) (by simp) ⟨fr.keep, fr.foot⟩
    exact h1 c hb' F ok' (hC.congr e3) hX
  · refine S_abs hds (R := fun h' => h' = Hp h O) (new_bad (Hp h O) nn (by simp at hb; omega)) fun h' e => ?_
    subst e; exact h2 hY

/-! a value: nil, or one number -/
theorem len_v {v : Val} (ht : (slD Try.prog t).isSome = true) : lenD Try.prog h t (vD v) = some (.int .i64 (v.toList.length : Int)) := by
  cases v with
  | none => show (if (slD Try.prog t).isSome then _ else _) = _; rw [if_pos ht]; rfl
  | some a => show (if (slD Try.prog t).isSome then _ else _) = _; rw [if_pos ht]; rfl
theorem S_lenV {v : Val} (hx : opL n l x = vD v) (ht : (slD Try.prog t).isSome = true) (hk : seqQ Try.prog md w ops os ⟨mkSl n ((d, .int .i64 (v.toList.length : Int)) :: l), h⟩ kk) :
    seqQ Try.prog md w ops (⟨some d, .call ⟨.builtin .len, #[x], #[t]⟩, ty, pos, af, none⟩ :: os) ⟨mkSl n l, h⟩ kk := S_of (by
  simp only [effD, List.map_cons, List.map_nil, hx, ev_len, len_v ht, OptP_some]; exact hk)
theorem S_neV {v : Val} {op2 : TypeId} (hx : opL n l x = vD v) (hy : opL n l y = .snil) (ht : (slD Try.prog t).isSome = true) (hk : seqQ Try.prog md w ops os ⟨mkSl n ((d, .bool v.isSome) :: l), h⟩ kk) :
    seqQ Try.prog md w ops (⟨some d, .binOp .neq t x y op2, ty, pos, af, none⟩ :: os) ⟨mkSl n l, h⟩ kk := by
  cases v with
  | none => exact S_bin hx hy (by show binD _ _ _ _ .snil .snil = _; rw [ev_neq_ss, if_pos ht]; rfl) hk
  | some a => exact S_bin hx hy (by show binD _ _ _ _ (.sl 1 [[.int .i64 a]] 0) .snil = _; rw [ev_neq_ls, if_pos ⟨ht, by simp⟩]; rfl) hk
theorem S_ixV {v : Val} {el : TypeId} {i : Int} {β : Type} {G : β → Prop} {f : Int → Option β} (hx : opL n l x = vD v) (hy : opL n l y = .int .i64 i) (ht : slD Try.prog t = some el) (hs : szD Try.prog el = some 1) (hF : OptP ((idx v.toList i).bind f) G)
    (hk : ∀ a, idx v.toList i = some a → OptP (f a) G → seqQ Try.prog md w ops os ⟨mkSl n ((d, .iptr [.int .i64 a]) :: l), h⟩ kk) :
    seqQ Try.prog md w ops (⟨some d, .indexAddr t x y, ty, pos, af, none⟩ :: os) ⟨mkSl n l, h⟩ kk := by
  cases v with
  | none =>
    obtain ⟨a, ha, _⟩ := F_bind hF
    simp [idx] at ha
  | some b => exact S_ix (c := fun a : Int => [.int .i64 a]) (L := [b]) hx hy ht hs hF fun a ha hF => hk a ha hF
end
end B

namespace Du
/-- Two caches that have no place in common. -/
def CaL (h : Heap) (c : Nat × Nat) (F : List Nat) (n : Int × Int) (L : List I.Ent × List B.Ent) : Prop := ∃ F1 F2, I.CaL h c.1 F1 n.1 L.1 ∧ B.CaL h c.2 F2 n.2 L.2 ∧ ∀ i ∈ F1, i ∉ F2

theorem stepA {hb h' : Heap} {c c2 : Nat} {F1 F2 F' : List Nat} {n n2 : Int} {L L' : List I.Ent} {L2 : List B.Ent} {O : List (Nat × AObj)} (ok : OK hb O) (HI : I.CaL hb c F1 n L) (HB : B.CaL hb c2 F2 n2 L2) (dj : ∀ i ∈ F1, i ∉ F2)
    (H' : I.CaL h' c F' n L') (fr : I.Fr (Hp hb O) h' F1 F') : ∃ hb', h' = Hp hb' O ∧ OK hb' O ∧ CaL hb' (c, c2) [] (n, n2) (L', L2) := by
  obtain ⟨hb', e1, e2, e3⟩ := abs_step (F := F1 ++ F2) (F' := F' ++ F2) ok (fun i hi => (List.mem_append.1 hi).elim (HI.dom i) (HB.dom i))
    ⟨fun i hi hn => fr.keep i (fun h => hi (List.mem_append_left _ h)) hn, fun i hi => (List.mem_append.1 hi).elim (fun h => (fr.foot i h).imp (List.mem_append_left _) id) fun h => .inl (List.mem_append_right _ h)⟩
  refine ⟨hb', e1, e2, F', F2, H'.congr fun i hi => e3 i (List.mem_append_left _ hi), HB.congr fun i hi => ?_, fun i hi h2 => ?_⟩
  · rw [e3 i (List.mem_append_right _ hi), fr.keep i (fun h => dj i h hi) (by rw [Hp_base ok (HB.dom i hi)]; exact HB.dom i hi), Hp_base ok (HB.dom i hi)]
  · rcases fr.foot i hi with h | h
    · exact dj i h h2
    · exact HB.dom i h2 (Hp_none h)
theorem stepB {hb h' : Heap} {c c2 : Nat} {F1 F2 F' : List Nat} {n n2 : Int} {L : List I.Ent} {L2 L' : List B.Ent} {O : List (Nat × AObj)} (ok : OK hb O) (HI : I.CaL hb c F1 n L) (HB : B.CaL hb c2 F2 n2 L2) (dj : ∀ i ∈ F1, i ∉ F2)
    (H' : B.CaL h' c2 F' n2 L') (fr : B.Fr (Hp hb O) h' F2 F') : ∃ hb', h' = Hp hb' O ∧ OK hb' O ∧ CaL hb' (c, c2) [] (n, n2) (L, L') := by
  obtain ⟨hb', e1, e2, e3⟩ := abs_step (F := F1 ++ F2) (F' := F1 ++ F') ok (fun i hi => (List.mem_append.1 hi).elim (HI.dom i) (HB.dom i))
    ⟨fun i hi hn => fr.keep i (fun h => hi (List.mem_append_right _ h)) hn, fun i hi => (List.mem_append.1 hi).elim (fun h => .inl (List.mem_append_left _ h)) fun h => (fr.foot i h).imp (List.mem_append_right _) id⟩
  refine ⟨hb', e1, e2, F1, F', HI.congr fun i hi => ?_, H'.congr fun i hi => e3 i (List.mem_append_right _ hi), fun i hi h2 => ?_⟩
  · rw [e3 i (List.mem_append_left _ hi), fr.keep i (fun h => dj i hi h) (by rw [Hp_base ok (HI.dom i hi)]; exact HI.dom i hi), Hp_base ok (HI.dom i hi)]
  · rcases fr.foot i h2 with h | h
    · exact dj i hi h
    · exact HI.dom i hi (Hp_none h)

section
variable {md : Nat → Nat} {w : Bool} {ops : Array Oper} {os : List Oper} {kk : St → Prop} {n : Nat} {l : List (Nat × D)} {h : Heap} {d : Nat} {t ty : TypeId} {pos : String} {af : Array Edge} {x y z u : Operand} {ts : Array TypeId} {O : List (Nat × AObj)}
/-- The second one is made. -/
theorem S_new {c1 : Nat} {F : List Nat} {n1 nn : Int} {L : List I.Ent} {β : Type} {G : β → Prop} {X Y : Option β} (ok : OK h O) (hC : I.CaL h c1 F n1 L) (hx : opL n l x = .int .i64 nn) (hF : OptP (cond (decide (1 ≤ nn) && decide (nn ≤ 65536)) X Y) G)
    (h1 : ∀ c h' F, OK h' O → CaL h' (c1, c) F (n1, nn) (L, []) → OptP X G → seqQ Try.prog md w ops os ⟨mkSl n ((d, .tup [.ptr c 0, .int .i64 0]) :: l), Hp h' O⟩ kk)
    (h2 : OptP Y G → seqQ Try.prog md w ops os ⟨mkSl n ((d, .tup [.nilp, .int .i64 1]) :: l), Hp h O⟩ kk) :
    seqQ Try.prog md w ops (⟨some d, .call ⟨.value (.func 21), #[x], ts⟩, ty, pos, af, none⟩ :: os) ⟨mkSl n l, Hp h O⟩ kk := by
  have hds : (#[x] : Array Operand).toList.map (opL n l) = [.int .i64 nn] := by simp [hx]
  rcases F_cond hF with ⟨hb, hX⟩ | ⟨hb, hY⟩
  · simp only [Bool.and_eq_true, decide_eq_true_eq] at hb
    refine S_call ((B.new_calls (Hp h O) nn hb.1 hb.2).mono fun d2 h2' ⟨c, F2, e, hB, fr⟩ => ?_) (by rw [hds]; exact .refl _)
    subst e
    obtain ⟨hb', rfl, ok', e3⟩ := abs_step ok (F := F) (F' := F ++ F2) hC.dom ⟨fun i _ hn => fr.keep i (by simp) hn, fun i hi => (List.mem_append.1 hi).elim .inl fun h => (fr.foot i h).imp (by simp) id⟩
    refine h1 c hb' [] ok' ⟨F, F2, hC.congr fun i hi => ?_, hB.congr fun i hi => e3 i (List.mem_append_right _ hi), fun i hi h2 => ?_⟩ hX
    · rw [e3 i (List.mem_append_left _ hi), fr.keep i (by simp) (by rw [Hp_base ok (hC.dom i hi)]; exact hC.dom i hi), Hp_base ok (hC.dom i hi)]
    · rcases fr.foot i h2 with h | h
      · simp at h
      · exact hC.dom i hi (Hp_none h)
  · refine S_abs hds (R := fun h' => h' = Hp h O) (B.new_bad (Hp h O) nn (by simp at hb; omega)) fun h' e => ?_
    subst e; exact h2 hY
variable {c : Nat × Nat} {F : List Nat} {m : Int × Int} {L : List I.Ent × List B.Ent}
theorem S_geta {k : I.Key} (ok : OK h O) (hC : CaL h c F m L) (hx : opL n l x = .ptr c.1 0) (hy : opL n l y = I.kD k)
    (hk : ∀ h' F', OK h' O → CaL h' c F' m (I.usd k L.1, L.2) → seqQ Try.prog md w ops os ⟨mkSl n ((d, .tup [I.vD (((I.fnd k L.1).map I.Ent.val).getD I.vz), .bool (I.fnd k L.1).isSome]) :: l), Hp h' O⟩ kk) :
    seqQ Try.prog md w ops (⟨some d, .call ⟨.value (.func 10), #[x, y], ts⟩, ty, pos, af, none⟩ :: os) ⟨mkSl n l, Hp h O⟩ kk := by
  obtain ⟨F1, F2, HI, HB, dj⟩ := hC
  refine S_abs (by simp [hx, hy]) (I.get_calls (HI.up ok) k) fun h' ⟨F', hC', fr⟩ => ?_
  obtain ⟨hb', rfl, ok', hC2⟩ := stepA ok HI HB dj hC' fr
  exact hk _ _ ok' hC2
theorem S_puta {k : I.Key} {v : I.Val} {b : Bool} (ok : OK h O) (hC : CaL h c F m L) (hx : opL n l x = .ptr c.1 0) (hy : opL n l y = I.kD k) (hz : opL n l z = I.vD v) (hu : opL n l u = .bool b)
    (hk : ∀ h' F', OK h' O → CaL h' c F' m ((I.putL k v b m.1 L.1).2, L.2) → seqQ Try.prog md w ops os ⟨mkSl n ((d, .int .i64 (I.putL k v b m.1 L.1).1) :: l), Hp h' O⟩ kk) :
    seqQ Try.prog md w ops (⟨some d, .call ⟨.value (.func 11), #[x, y, z, u], ts⟩, ty, pos, af, none⟩ :: os) ⟨mkSl n l, Hp h O⟩ kk := by
  obtain ⟨F1, F2, HI, HB, dj⟩ := hC
  refine S_abs (by simp [hx, hy, hz, hu]) (I.put_calls (HI.up ok) k v b) fun h' ⟨F', hC', fr⟩ => ?_
  obtain ⟨hb', rfl, ok', hC2⟩ := stepA ok HI HB dj hC' fr
  exact hk _ _ ok' hC2
theorem S_dropa {k : I.Key} (ok : OK h O) (hC : CaL h c F m L) (hx : opL n l x = .ptr c.1 0) (hy : opL n l y = I.kD k)
    (hk : ∀ h' F', OK h' O → CaL h' c F' m (if I.dropB k L.1 then I.rem k L.1 else L.1, L.2) → seqQ Try.prog md w ops os ⟨mkSl n ((d, .bool (I.dropB k L.1)) :: l), Hp h' O⟩ kk) :
    seqQ Try.prog md w ops (⟨some d, .call ⟨.value (.func 24), #[x, y], ts⟩, ty, pos, af, none⟩ :: os) ⟨mkSl n l, Hp h O⟩ kk := by
  obtain ⟨F1, F2, HI, HB, dj⟩ := hC
  refine S_abs (by simp [hx, hy]) (I.drop_calls (HI.up ok) k) fun h' ⟨F', hC', fr⟩ => ?_
  obtain ⟨hb', rfl, ok', hC2⟩ := stepA ok HI HB dj hC' fr
  exact hk _ _ ok' hC2
theorem S_pina {k : I.Key} {β : Type} {f : Unit → Option β} {G : β → Prop} (ok : OK h O) (hC : CaL h c F m L) (hx : opL n l x = .ptr c.1 0) (hy : opL n l y = I.kD k) (hF : OptP ((I.pinG L.1).bind f) G)
    (hk : ∀ h' F', OK h' O → CaL h' c F' m (if I.pinB k L.1 then I.upk k (fun e => { e with pins := e.pins + 1 }) L.1 else L.1, L.2) → OptP (f ()) G → seqQ Try.prog md w ops os ⟨mkSl n ((d, .bool (I.pinB k L.1)) :: l), Hp h' O⟩ kk) :
    seqQ Try.prog md w ops (⟨some d, .call ⟨.value (.func 16), #[x, y], ts⟩, ty, pos, af, none⟩ :: os) ⟨mkSl n l, Hp h O⟩ kk := by
  obtain ⟨F1, F2, HI, HB, dj⟩ := hC
  refine S_abs (by simp [hx, hy]) (I.pin_calls (HI.up ok) (I.G_pin hF).1 k) fun h' ⟨hC', fr⟩ => ?_
  obtain ⟨hb', rfl, ok', hC2⟩ := stepA ok HI HB dj hC' fr
  exact hk _ _ ok' hC2 (I.G_pin hF).2
theorem S_unpina {k : I.Key} {β : Type} {f : Unit → Option β} {G : β → Prop} (ok : OK h O) (hC : CaL h c F m L) (hx : opL n l x = .ptr c.1 0) (hy : opL n l y = I.kD k) (hF : OptP ((I.pinG L.1).bind f) G)
    (hk : ∀ h' F', OK h' O → CaL h' c F' m (if I.unpinB k L.1 then I.upk k (fun e => { e with pins := e.pins - 1 }) L.1 else L.1, L.2) → OptP (f ()) G → seqQ Try.prog md w ops os ⟨mkSl n ((d, .bool (I.unpinB k L.1)) :: l), Hp h' O⟩ kk) :
    seqQ Try.prog md w ops (⟨some d, .call ⟨.value (.func 17), #[x, y], ts⟩, ty, pos, af, none⟩ :: os) ⟨mkSl n l, Hp h O⟩ kk := by
  obtain ⟨F1, F2, HI, HB, dj⟩ := hC
  refine S_abs (by simp [hx, hy]) (I.unpin_calls (HI.up ok) (I.G_pin hF).1 k) fun h' ⟨hC', fr⟩ => ?_
  obtain ⟨hb', rfl, ok', hC2⟩ := stepA ok HI HB dj hC' fr
  exact hk _ _ ok' hC2 (I.G_pin hF).2
theorem S_cleana {k : I.Key} (ok : OK h O) (hC : CaL h c F m L) (hx : opL n l x = .ptr c.1 0) (hy : opL n l y = I.kD k)
    (hk : ∀ h' F', OK h' O → CaL h' c F' m (if I.cleanB k L.1 then I.upk k (fun e => { e with dirty := false }) L.1 else L.1, L.2) → seqQ Try.prog md w ops os ⟨mkSl n ((d, .bool (I.cleanB k L.1)) :: l), Hp h' O⟩ kk) :
    seqQ Try.prog md w ops (⟨some d, .call ⟨.value (.func 18), #[x, y], ts⟩, ty, pos, af, none⟩ :: os) ⟨mkSl n l, Hp h O⟩ kk := by
  obtain ⟨F1, F2, HI, HB, dj⟩ := hC
  refine S_abs (by simp [hx, hy]) (I.clean_calls (HI.up ok) k) fun h' ⟨hC', fr⟩ => ?_
  obtain ⟨hb', rfl, ok', hC2⟩ := stepA ok HI HB dj hC' fr
  exact hk _ _ ok' hC2
theorem S_clena (ok : OK h O) (hC : CaL h c F m L) (hx : opL n l x = .ptr c.1 0) (hk : seqQ Try.prog md w ops os ⟨mkSl n ((d, .int .i64 (L.1.length : Int)) :: l), Hp h O⟩ kk) :
    seqQ Try.prog md w ops (⟨some d, .call ⟨.value (.func 15), #[x], ts⟩, ty, pos, af, none⟩ :: os) ⟨mkSl n l, Hp h O⟩ kk := by
  obtain ⟨F1, F2, HI, HB, dj⟩ := hC
  exact S_abs (by simp [hx]) (I.len_calls (HI.up ok)) fun h' e => by subst e; exact hk
theorem S_keysa {β : Type} {f : Unit → Option β} {G : β → Prop} (ok : OK h O) (hC : CaL h c F m L) (hx : opL n l x = .ptr c.1 0) (hF : OptP ((I.lenG L.1).bind f) G)
    (hk : OptP (f ()) G → seqQ Try.prog md true ops os ⟨mkSl n ((d, .sl 1 ((I.keysL true L.1).map I.kC) 0) :: l), Hp h O⟩ kk) :
    seqQ Try.prog md true ops (⟨some d, .call ⟨.value (.func 13), #[x], ts⟩, ty, pos, af, none⟩ :: os) ⟨mkSl n l, Hp h O⟩ kk := by
  obtain ⟨F1, F2, HI, HB, dj⟩ := hC
  exact S_acc ok (by simp [hx]) (I.keysA_calls (HI.up ok) (I.G_len hF).1) (hk (I.G_len hF).2)
theorem S_keysSa {β : Type} {f : Unit → Option β} {G : β → Prop} (ok : OK h O) (hC : CaL h c F m L) (hx : opL n l x = .ptr c.1 0) (hF : OptP ((I.lenG L.1).bind f) G)
    (hk : OptP (f ()) G → seqQ Try.prog md true ops os ⟨mkSl n ((d, .sl 1 ((I.keysL true L.1).map I.kC) 0) :: l), Hp h O⟩ kk) :
    stepG Try.prog N0 md ops ⟨some d, .call ⟨.value (.func 13), #[x], ts⟩, ty, pos, af, none⟩ ⟨mkSl n l, Hp h O⟩ fun s' => seqQ Try.prog md true ops os s' kk := by
  obtain ⟨F1, F2, HI, HB, dj⟩ := hC
  exact S_accS ok (by simp [hx]) (I.keysA_calls (HI.up ok) (I.G_len hF).1) (hk (I.G_len hF).2)
theorem S_dirtya {β : Type} {f : Unit → Option β} {G : β → Prop} (ok : OK h O) (hC : CaL h c F m L) (hx : opL n l x = .ptr c.1 0) (hF : OptP ((I.lenG L.1).bind f) G)
    (hk : OptP (f ()) G → seqQ Try.prog md true ops os ⟨mkSl n ((d, .sl 1 ((I.keysL false L.1).map I.kC) 0) :: l), Hp h O⟩ kk) :
    seqQ Try.prog md true ops (⟨some d, .call ⟨.value (.func 14), #[x], ts⟩, ty, pos, af, none⟩ :: os) ⟨mkSl n l, Hp h O⟩ kk := by
  obtain ⟨F1, F2, HI, HB, dj⟩ := hC
  exact S_acc ok (by simp [hx]) (I.keysD_calls (HI.up ok) (I.G_len hF).1) (hk (I.G_len hF).2)
theorem S_dirtySa {β : Type} {f : Unit → Option β} {G : β → Prop} (ok : OK h O) (hC : CaL h c F m L) (hx : opL n l x = .ptr c.1 0) (hF : OptP ((I.lenG L.1).bind f) G)
    (hk : OptP (f ()) G → seqQ Try.prog md true ops os ⟨mkSl n ((d, .sl 1 ((I.keysL false L.1).map I.kC) 0) :: l), Hp h O⟩ kk) :
    stepG Try.prog N0 md ops ⟨some d, .call ⟨.value (.func 14), #[x], ts⟩, ty, pos, af, none⟩ ⟨mkSl n l, Hp h O⟩ fun s' => seqQ Try.prog md true ops os s' kk := by
  obtain ⟨F1, F2, HI, HB, dj⟩ := hC
  exact S_accS ok (by simp [hx]) (I.keysD_calls (HI.up ok) (I.G_len hF).1) (hk (I.G_len hF).2)
theorem S_getb {k : B.Key} (ok : OK h O) (hC : CaL h c F m L) (hx : opL n l x = .ptr c.2 0) (hy : opL n l y = B.kD k)
    (hk : ∀ h' F', OK h' O → CaL h' c F' m (L.1, B.usd k L.2) → seqQ Try.prog md w ops os ⟨mkSl n ((d, .tup [B.vD (((B.fnd k L.2).map B.Ent.val).getD B.vz), .bool (B.fnd k L.2).isSome]) :: l), Hp h' O⟩ kk) :
    seqQ Try.prog md w ops (⟨some d, .call ⟨.value (.func 22), #[x, y], ts⟩, ty, pos, af, none⟩ :: os) ⟨mkSl n l, Hp h O⟩ kk := by
  obtain ⟨F1, F2, HI, HB, dj⟩ := hC
  refine S_abs (by simp [hx, hy]) (B.get_calls (HB.up ok) k) fun h' ⟨F', hC', fr⟩ => ?_
  obtain ⟨hb', rfl, ok', hC2⟩ := stepB ok HI HB dj hC' fr
  exact hk _ _ ok' hC2
theorem S_putb {k : B.Key} {v : B.Val} {b : Bool} (ok : OK h O) (hC : CaL h c F m L) (hx : opL n l x = .ptr c.2 0) (hy : opL n l y = B.kD k) (hz : opL n l z = B.vD v) (hu : opL n l u = .bool b)
    (hk : ∀ h' F', OK h' O → CaL h' c F' m (L.1, (B.putL k v b m.2 L.2).2) → seqQ Try.prog md w ops os ⟨mkSl n ((d, .int .i64 (B.putL k v b m.2 L.2).1) :: l), Hp h' O⟩ kk) :
    seqQ Try.prog md w ops (⟨some d, .call ⟨.value (.func 23), #[x, y, z, u], ts⟩, ty, pos, af, none⟩ :: os) ⟨mkSl n l, Hp h O⟩ kk := by
  obtain ⟨F1, F2, HI, HB, dj⟩ := hC
  refine S_abs (by simp [hx, hy, hz, hu]) (B.put_calls (HB.up ok) k v b) fun h' ⟨F', hC', fr⟩ => ?_
  obtain ⟨hb', rfl, ok', hC2⟩ := stepB ok HI HB dj hC' fr
  exact hk _ _ ok' hC2
theorem S_dropb {k : B.Key} (ok : OK h O) (hC : CaL h c F m L) (hx : opL n l x = .ptr c.2 0) (hy : opL n l y = B.kD k)
    (hk : ∀ h' F', OK h' O → CaL h' c F' m (L.1, if B.dropB k L.2 then B.rem k L.2 else L.2) → seqQ Try.prog md w ops os ⟨mkSl n ((d, .bool (B.dropB k L.2)) :: l), Hp h' O⟩ kk) :
    seqQ Try.prog md w ops (⟨some d, .call ⟨.value (.func 25), #[x, y], ts⟩, ty, pos, af, none⟩ :: os) ⟨mkSl n l, Hp h O⟩ kk := by
  obtain ⟨F1, F2, HI, HB, dj⟩ := hC
  refine S_abs (by simp [hx, hy]) (B.drop_calls (HB.up ok) k) fun h' ⟨F', hC', fr⟩ => ?_
  obtain ⟨hb', rfl, ok', hC2⟩ := stepB ok HI HB dj hC' fr
  exact hk _ _ ok' hC2
theorem S_pinb {k : B.Key} {β : Type} {f : Unit → Option β} {G : β → Prop} (ok : OK h O) (hC : CaL h c F m L) (hx : opL n l x = .ptr c.2 0) (hy : opL n l y = B.kD k) (hF : OptP ((B.pinG L.2).bind f) G)
    (hk : ∀ h' F', OK h' O → CaL h' c F' m (L.1, if B.pinB k L.2 then B.upk k (fun e => { e with pins := e.pins + 1 }) L.2 else L.2) → OptP (f ()) G → seqQ Try.prog md w ops os ⟨mkSl n ((d, .bool (B.pinB k L.2)) :: l), Hp h' O⟩ kk) :
    seqQ Try.prog md w ops (⟨some d, .call ⟨.value (.func 26), #[x, y], ts⟩, ty, pos, af, none⟩ :: os) ⟨mkSl n l, Hp h O⟩ kk := by
  obtain ⟨F1, F2, HI, HB, dj⟩ := hC
  refine S_abs (by simp [hx, hy]) (B.pin_calls (HB.up ok) (B.G_pin hF).1 k) fun h' ⟨hC', fr⟩ => ?_
  obtain ⟨hb', rfl, ok', hC2⟩ := stepB ok HI HB dj hC' fr
  exact hk _ _ ok' hC2 (B.G_pin hF).2
theorem S_unpinb {k : B.Key} {β : Type} {f : Unit → Option β} {G : β → Prop} (ok : OK h O) (hC : CaL h c F m L) (hx : opL n l x = .ptr c.2 0) (hy : opL n l y = B.kD k) (hF : OptP ((B.pinG L.2).bind f) G)
    (hk : ∀ h' F', OK h' O → CaL h' c F' m (L.1, if B.unpinB k L.2 then B.upk k (fun e => { e with pins := e.pins - 1 }) L.2 else L.2) → OptP (f ()) G → seqQ Try.prog md w ops os ⟨mkSl n ((d, .bool (B.unpinB k L.2)) :: l), Hp h' O⟩ kk) :
    seqQ Try.prog md w ops (⟨some d, .call ⟨.value (.func 27), #[x, y], ts⟩, ty, pos, af, none⟩ :: os) ⟨mkSl n l, Hp h O⟩ kk := by
  obtain ⟨F1, F2, HI, HB, dj⟩ := hC
  refine S_abs (by simp [hx, hy]) (B.unpin_calls (HB.up ok) (B.G_pin hF).1 k) fun h' ⟨hC', fr⟩ => ?_
  obtain ⟨hb', rfl, ok', hC2⟩ := stepB ok HI HB dj hC' fr
  exact hk _ _ ok' hC2 (B.G_pin hF).2
theorem S_cleanb {k : B.Key} (ok : OK h O) (hC : CaL h c F m L) (hx : opL n l x = .ptr c.2 0) (hy : opL n l y = B.kD k)
    (hk : ∀ h' F', OK h' O → CaL h' c F' m (L.1, if B.cleanB k L.2 then B.upk k (fun e => { e with dirty := false }) L.2 else L.2) → seqQ Try.prog md w ops os ⟨mkSl n ((d, .bool (B.cleanB k L.2)) :: l), Hp h' O⟩ kk) :
    seqQ Try.prog md w ops (⟨some d, .call ⟨.value (.func 28), #[x, y], ts⟩, ty, pos, af, none⟩ :: os) ⟨mkSl n l, Hp h O⟩ kk := by
  obtain ⟨F1, F2, HI, HB, dj⟩ := hC
  refine S_abs (by simp [hx, hy]) (B.clean_calls (HB.up ok) k) fun h' ⟨hC', fr⟩ => ?_
  obtain ⟨hb', rfl, ok', hC2⟩ := stepB ok HI HB dj hC' fr
  exact hk _ _ ok' hC2
theorem S_clenb (ok : OK h O) (hC : CaL h c F m L) (hx : opL n l x = .ptr c.2 0) (hk : seqQ Try.prog md w ops os ⟨mkSl n ((d, .int .i64 (L.2.length : Int)) :: l), Hp h O⟩ kk) :
    seqQ Try.prog md w ops (⟨some d, .call ⟨.value (.func 29), #[x], ts⟩, ty, pos, af, none⟩ :: os) ⟨mkSl n l, Hp h O⟩ kk := by
  obtain ⟨F1, F2, HI, HB, dj⟩ := hC
  exact S_abs (by simp [hx]) (B.len_calls (HB.up ok)) fun h' e => by subst e; exact hk
theorem S_keysb {β : Type} {f : Unit → Option β} {G : β → Prop} (ok : OK h O) (hC : CaL h c F m L) (hx : opL n l x = .ptr c.2 0) (hF : OptP ((B.lenG L.2).bind f) G)
    (hk : OptP (f ()) G → seqQ Try.prog md true ops os ⟨mkSl n ((d, .sl 2 ((B.keysL true L.2).map B.kC) 0) :: l), Hp h O⟩ kk) :
    seqQ Try.prog md true ops (⟨some d, .call ⟨.value (.func 31), #[x], ts⟩, ty, pos, af, none⟩ :: os) ⟨mkSl n l, Hp h O⟩ kk := by
  obtain ⟨F1, F2, HI, HB, dj⟩ := hC
  exact S_acc ok (by simp [hx]) (B.keysA_calls (HB.up ok) (B.G_len hF).1) (hk (B.G_len hF).2)
theorem S_keysSb {β : Type} {f : Unit → Option β} {G : β → Prop} (ok : OK h O) (hC : CaL h c F m L) (hx : opL n l x = .ptr c.2 0) (hF : OptP ((B.lenG L.2).bind f) G)
    (hk : OptP (f ()) G → seqQ Try.prog md true ops os ⟨mkSl n ((d, .sl 2 ((B.keysL true L.2).map B.kC) 0) :: l), Hp h O⟩ kk) :
    stepG Try.prog N0 md ops ⟨some d, .call ⟨.value (.func 31), #[x], ts⟩, ty, pos, af, none⟩ ⟨mkSl n l, Hp h O⟩ fun s' => seqQ Try.prog md true ops os s' kk := by
  obtain ⟨F1, F2, HI, HB, dj⟩ := hC
  exact S_accS ok (by simp [hx]) (B.keysA_calls (HB.up ok) (B.G_len hF).1) (hk (B.G_len hF).2)
theorem S_dirtyb {β : Type} {f : Unit → Option β} {G : β → Prop} (ok : OK h O) (hC : CaL h c F m L) (hx : opL n l x = .ptr c.2 0) (hF : OptP ((B.lenG L.2).bind f) G)
    (hk : OptP (f ()) G → seqQ Try.prog md true ops os ⟨mkSl n ((d, .sl 2 ((B.keysL false L.2).map B.kC) 0) :: l), Hp h O⟩ kk) :
    seqQ Try.prog md true ops (⟨some d, .call ⟨.value (.func 30), #[x], ts⟩, ty, pos, af, none⟩ :: os) ⟨mkSl n l, Hp h O⟩ kk := by
  obtain ⟨F1, F2, HI, HB, dj⟩ := hC
  exact S_acc ok (by simp [hx]) (B.keysD_calls (HB.up ok) (B.G_len hF).1) (hk (B.G_len hF).2)
theorem S_dirtySb {β : Type} {f : Unit → Option β} {G : β → Prop} (ok : OK h O) (hC : CaL h c F m L) (hx : opL n l x = .ptr c.2 0) (hF : OptP ((B.lenG L.2).bind f) G)
    (hk : OptP (f ()) G → seqQ Try.prog md true ops os ⟨mkSl n ((d, .sl 2 ((B.keysL false L.2).map B.kC) 0) :: l), Hp h O⟩ kk) :
    stepG Try.prog N0 md ops ⟨some d, .call ⟨.value (.func 30), #[x], ts⟩, ty, pos, af, none⟩ ⟨mkSl n l, Hp h O⟩ fun s' => seqQ Try.prog md true ops os s' kk := by
  obtain ⟨F1, F2, HI, HB, dj⟩ := hC
  exact S_accS ok (by simp [hx]) (B.keysD_calls (HB.up ok) (B.G_len hF).1) (hk (B.G_len hF).2)
end
end Du
end Go.Proofs.Ytcjndiagbdkikaa
