/- The cache's calls within a walk. No condition. -/
import Derived.Test.YtcjndiagbdkikaaCl1
import Derived.Test.YtcjndiagbdkikaaEng22
set_option linter.unusedSimpArgs false
set_option linter.unusedVariables false
namespace Go.Proofs.Ytcjndiagbdkikaa

theorem Hp_out {h : Heap} {i : Nat} : ∀ {O : List (Nat × AObj)}, (∀ x, (i, x) ∈ O → i = 0) → i ≠ 0 → Hp h O i = h i
  | [], _, _ => rfl
  | (j, y) :: O, ho, h0 => by
    have ih := Hp_out (h := h) (O := O) (fun x hx => ho x (List.mem_cons_of_mem _ hx)) h0
    by_cases e : j = 0
    · simp [Hp, e, ih]
    · have hne : i ≠ j := fun e2 => by subst e2; exact h0 (ho y List.mem_cons_self)
      simp [Hp, e, Heap.upd, hne, ih]
theorem Hp_zero {h : Heap} : ∀ {O : List (Nat × AObj)}, Hp h O 0 = h 0
  | [] => rfl
  | (j, y) :: O => by
    by_cases e : j = 0
    · simp [Hp, e, Hp_zero (O := O)]
    · simp [Hp, e, Heap.upd, Ne.symm e, Hp_zero (O := O)]
theorem OK.mem {h : Heap} {i : Nat} {x : AObj} {O : List (Nat × AObj)} (ok : OK h O) (hm : (i, x) ∈ O) (h0 : i ≠ 0) : Hp h O i = some x := by
  obtain ⟨n, hn⟩ := List.mem_iff_getElem?.1 hm
  exact Hp_get n ok hn h0
theorem OK.none {h : Heap} {i : Nat} {x : AObj} : ∀ {O : List (Nat × AObj)}, OK h O → (i, x) ∈ O → i ≠ 0 → h i = none
  | (j, y) :: O, ok, hm, h0 => by
    rcases List.mem_cons.1 hm with e | e
    · injection e with e1 e2; subst e1
      rcases ok.1 with ⟨e, _⟩ | ⟨_, e⟩
      · exact absurd e h0
      · exact Hp_none e
    · exact OK.none ok.2 e h0
theorem OK.swap {h h2 : Heap} : ∀ {O : List (Nat × AObj)}, OK h O → (∀ i x, (i, x) ∈ O → i ≠ 0 → h2 i = .none) → OK h2 O
  | [], _, _ => trivial
  | (j, y) :: O, ok, hs => by
    refine ⟨?_, OK.swap ok.2 fun i x hm => hs i x (List.mem_cons_of_mem _ hm)⟩
    rcases ok.1 with e | ⟨h0, e⟩
    · exact .inl e
    · refine .inr ⟨h0, ?_⟩
      rw [Hp_out (fun x hx => ?_) h0]
      · exact hs j y List.mem_cons_self h0
      · by_cases hz : j = 0
        · exact hz
        · have := ok.2.mem hx hz; rw [e] at this; simp at this

open Classical in
/-- Behind a call that left the own objects as they were. -/
theorem abs_step {hb h' : Heap} {O : List (Nat × AObj)} {F F' : List Nat} (ok : OK hb O) (hF : ∀ i ∈ F, hb i ≠ none) (fr : I.Fr (Hp hb O) h' F F') : ∃ hb', h' = Hp hb' O ∧ OK hb' O ∧ ∀ i ∈ F', hb' i = h' i := by
  refine ⟨fun i => if ∃ x, (i, x) ∈ O ∧ i ≠ 0 then none else h' i, ?_, ?_, ?_⟩
  · funext i
    have ok2 : OK (fun i => if ∃ x, (i, x) ∈ O ∧ i ≠ 0 then none else h' i) O := ok.swap fun i x hm h0 => if_pos ⟨x, hm, h0⟩
    by_cases hi : ∃ x, (i, x) ∈ O ∧ i ≠ 0
    · obtain ⟨x, hm, h0⟩ := hi
      rw [ok2.mem hm h0]
      have e1 := ok.mem hm h0
      rw [fr.keep i (fun hf => hF i hf (ok.none hm h0)) (by rw [e1]; simp), e1]
    · by_cases h0 : i = 0
      · subst h0; rw [Hp_zero]; simp
      · rw [Hp_out (fun x hx => Decidable.byContradiction fun hz => hi ⟨x, hx, hz⟩) h0]; simp [hi]
  · exact ok.swap fun i x hm h0 => if_pos ⟨x, hm, h0⟩
  · intro i hi
    refine if_neg ?_
    rintro ⟨x, hm, h0⟩
    rcases fr.foot i hi with h | h
    · exact hF i h (ok.none hm h0)
    · rw [ok.mem hm h0] at h; simp at h

section
variable {P : Program} {md : Nat → Nat} {w : Bool} {ops : Array Oper} {os : List Oper} {k : St → Prop} {n : Nat} {l : List (Nat × D)} {h : Heap} {d : Nat} {t ty : TypeId} {pos : String} {af : Array Edge} {x y z u : Operand} {ts : Array TypeId} {O : List (Nat × AObj)}
theorem S_abs {g : FuncId} {args : Array Operand} {ds : List D} {v : D} {R : Heap → Prop} (hds : args.toList.map (opL n l) = ds) (hc : CallsA P g ds h fun d h' => d = v ∧ R h') (hk : ∀ h', R h' → seqQ P md w ops os ⟨mkSl n ((d, v) :: l), h'⟩ k) :
    seqQ P md w ops (⟨some d, .call ⟨.value (.func g), args, ts⟩, ty, pos, af, none⟩ :: os) ⟨mkSl n l, h⟩ k :=
  S_call (hc.mono fun d2 h2 ⟨e, r⟩ => by subst e; exact hk h2 r) (by rw [hds]; exact .refl _)
theorem S_acc {α : Type} {q : Nat} {f : α → List D} {L : List α} {g : FuncId} {args : Array Operand} {ds : List D} (ok : OK h O) (hds : args.toList.map (opL n l) = ds) (hc : CallsA P g ds (Hp h O) fun d h' => Acc q f L (Hp h O) d h')
    (hk : seqQ P md true ops os ⟨mkSl n ((d, .sl q (L.map f) 0) :: l), Hp h O⟩ k) : seqQ P md true ops (⟨some d, .call ⟨.value (.func g), args, ts⟩, ty, pos, af, none⟩ :: os) ⟨mkSl n l, Hp h O⟩ k :=
  S_call (hc.mono fun d2 h2 a => by
    rcases a with ⟨rfl, rfl, rfl⟩ | ⟨r, h1, h2, rfl, rfl⟩
    · exact S_ws (.hd (.nil _) (.refl _)) hk
    · have hw : WS ⟨mkSl n l, (Hp h O).upd r (some .room)⟩ ⟨mkSl n l, Hp h O⟩ := ⟨rfl, fun _ => .refl _, fun i => by
        by_cases e : i = r
        · subst e; exact .inr (.inl h2)
        · exact .inl (Heap.upd_ne _ _ e).symm⟩
      exact S_ws (.hd (.zero _ _ _) hw) hk) (by rw [hds]; exact .refl _)
theorem S_accS {α : Type} {q : Nat} {f : α → List D} {L : List α} {g : FuncId} {args : Array Operand} {ds : List D} (ok : OK h O) (hds : args.toList.map (opL n l) = ds) (hc : CallsA P g ds (Hp h O) fun d h' => Acc q f L (Hp h O) d h')
    (hk : seqQ P md true ops os ⟨mkSl n ((d, .sl q (L.map f) 0) :: l), Hp h O⟩ k) : stepG P N0 md ops ⟨some d, .call ⟨.value (.func g), args, ts⟩, ty, pos, af, none⟩ ⟨mkSl n l, Hp h O⟩ fun s' => seqQ P md true ops os s' k :=
  S_callS (hc.mono fun d2 h2 a => by
    rcases a with ⟨rfl, rfl, rfl⟩ | ⟨r, h1, h2, rfl, rfl⟩
    · exact S_ws (.hd (.nil _) (.refl _)) hk
    · have hw : WS ⟨mkSl n l, (Hp h O).upd r (some .room)⟩ ⟨mkSl n l, Hp h O⟩ := ⟨rfl, fun _ => .refl _, fun i => by
        by_cases e : i = r
        · subst e; exact .inr (.inl h2)
        · exact .inl (Heap.upd_ne _ _ e).symm⟩
      exact S_ws (.hd (.zero _ _ _) hw) hk) (by rw [hds]; exact .refl _)
theorem S_awake (ok : OK h O) (hk : ∀ h', OK h' O → seqQ Try.prog md w ops os ⟨mkSl n ((d, .bool true) :: l), Hp h' O⟩ k) :
    seqQ Try.prog md w ops (⟨some d, .call ⟨.value (.func 8), #[], ts⟩, ty, pos, af, none⟩ :: os) ⟨mkSl n l, Hp h O⟩ k :=
  S_abs rfl (awake_calls _) fun h' ⟨F, fr⟩ => by
    obtain ⟨hb', rfl, ok', _⟩ := abs_step ok (F := []) (by simp) ⟨fr.keep, fr.foot⟩
    exact hk _ ok'
end

namespace I
theorem CaL.congr {h h' : Heap} {c : Nat} {F : List Nat} {n : Int} {L : List Ent} (H : CaL h c F n L) (he : ∀ i ∈ F, h' i = h i) : CaL h' c F n L := by
  obtain ⟨m, r, ids, en, H, rfl, rfl⟩ := H
  refine ⟨m, r, ids, en, ⟨?_, ?_, ?_, H.ky⟩, rfl, rfl⟩
  · rw [he c (by simp)]; exact H.hc
  · obtain ⟨mes, clock, pr, a, b⟩ := H.mp
    exact ⟨mes, clock, pr, by rw [he m (by simp)]; exact a, b⟩
  · obtain ⟨pv, nx, R⟩ := H.rg
    exact ⟨pv, nx, fun y hy => by rw [he y (List.mem_cons_of_mem _ (List.mem_cons_of_mem _ hy))]; exact R.nd y hy, R.ch, R.un⟩
theorem CaL.dom {h : Heap} {c : Nat} {F : List Nat} {n : Int} {L : List Ent} (H : CaL h c F n L) : ∀ i ∈ F, h i ≠ none := by
  obtain ⟨m, r, ids, en, H, rfl, rfl⟩ := H
  intro i hi
  rcases List.mem_cons.1 hi with rfl | hi
  · rw [H.hc]; simp
  · rcases List.mem_cons.1 hi with rfl | hi
    · obtain ⟨mes, clock, pr, a, b⟩ := H.mp; rw [a]; simp
    · obtain ⟨pv, nx, R⟩ := H.rg; rw [R.nd i hi]; simp
theorem CaL.up {h : Heap} {c : Nat} {F : List Nat} {n : Int} {L : List Ent} {O : List (Nat × AObj)} (H : CaL h c F n L) (ok : OK h O) : CaL (Hp h O) c F n L := H.congr fun i hi => Hp_base ok (H.dom i hi)
theorem CaL.step {hb h' : Heap} {c : Nat} {F F' : List Nat} {n n' : Int} {L L' : List Ent} {O : List (Nat × AObj)} (H : CaL hb c F n L) (ok : OK hb O) (H' : CaL h' c F' n' L') (fr : Fr (Hp hb O) h' F F') : ∃ hb', h' = Hp hb' O ∧ OK hb' O ∧ CaL hb' c F' n' L' := by
  obtain ⟨hb', e1, e2, e3⟩ := abs_step ok H.dom fr
  exact ⟨hb', e1, e2, H'.congr e3⟩

def pinG (L : List Ent) : Option Unit := if ∀ e ∈ L, 0 ≤ e.pins ∧ e.pins ≤ 1000000000 then some () else none
def lenG (L : List Ent) : Option Unit := if L.length ≤ 1000000 then some () else none
theorem G_pin {β : Type} {L : List Ent} {f : Unit → Option β} {G : β → Prop} (hF : OptP ((pinG L).bind f) G) : (∀ e ∈ L, 0 ≤ e.pins ∧ e.pins ≤ 1000000000) ∧ OptP (f ()) G := by
  unfold pinG at hF
  split at hF
  · rename_i h; exact ⟨h, hF⟩
  · exact F_none hF
theorem G_len {β : Type} {L : List Ent} {f : Unit → Option β} {G : β → Prop} (hF : OptP ((lenG L).bind f) G) : L.length ≤ 1000000 ∧ OptP (f ()) G := by
  unfold lenG at hF
  split at hF
  · rename_i h; exact ⟨h, hF⟩
  · exact F_none hF

section
variable {md : Nat → Nat} {w : Bool} {ops : Array Oper} {os : List Oper} {kk : St → Prop} {n : Nat} {l : List (Nat × D)} {h : Heap} {d : Nat} {t ty : TypeId} {pos : String} {af : Array Edge} {x y z u : Operand} {ts : Array TypeId} {O : List (Nat × AObj)}
variable {c : Nat} {F : List Nat} {m : Int} {L : List Ent}
theorem S_new {nn : Int} {β : Type} {G : β → Prop} {X Y : Option β} (ok : OK h O) (hx : opL n l x = .int .i64 nn) (hF : OptP (cond (decide (1 ≤ nn) && decide (nn ≤ 65536)) X Y) G)
    (h1 : ∀ c h' F, OK h' O → CaL h' c F nn [] → OptP X G → seqQ Try.prog md w ops os ⟨mkSl n ((d, .tup [.ptr c 0, .int .i64 0]) :: l), Hp h' O⟩ kk)
    (h2 : OptP Y G → seqQ Try.prog md w ops os ⟨mkSl n ((d, .tup [.nilp, .int .i64 1]) :: l), Hp h O⟩ kk) :
    seqQ Try.prog md w ops (⟨some d, .call ⟨.value (.func 9), #[x], ts⟩, ty, pos, af, none⟩ :: os) ⟨mkSl n l, Hp h O⟩ kk := by
  have hds : (#[x] : Array Operand).toList.map (opL n l) = [.int .i64 nn] := by simp [hx]
  rcases F_cond hF with ⟨hb, hX⟩ | ⟨hb, hY⟩
  · simp only [Bool.and_eq_true, decide_eq_true_eq] at hb
    refine S_call ((new_calls (Hp h O) nn hb.1 hb.2).mono fun d2 h2' ⟨c, F, e, hC, fr⟩ => ?_) (by rw [hds]; exact .refl _)
    subst e
    obtain ⟨hb', rfl, ok', e3⟩ := abs_step ok (F := []) (by simp) fr
    exact h1 c hb' F ok' (hC.congr e3) hX
  · refine S_abs hds (R := fun h' => h' = Hp h O) (new_bad (Hp h O) nn (by simp at hb; omega)) fun h' e => ?_
    subst e; exact h2 hY
theorem S_get {k : Key} (ok : OK h O) (hC : CaL h c F m L) (hx : opL n l x = .ptr c 0) (hy : opL n l y = kD k)
    (hk : ∀ h' F', OK h' O → CaL h' c F' m (usd k L) → seqQ Try.prog md w ops os ⟨mkSl n ((d, .tup [vD (((fnd k L).map Ent.val).getD vz), .bool (fnd k L).isSome]) :: l), Hp h' O⟩ kk) :
    seqQ Try.prog md w ops (⟨some d, .call ⟨.value (.func 10), #[x, y], ts⟩, ty, pos, af, none⟩ :: os) ⟨mkSl n l, Hp h O⟩ kk :=
  S_abs (by simp [hx, hy]) (get_calls (hC.up ok) k) fun h' ⟨F', hC', fr⟩ => by
    obtain ⟨hb', rfl, ok', hC2⟩ := hC.step ok hC' fr
    exact hk _ _ ok' hC2
theorem S_put {k : Key} {v : Val} {b : Bool} (ok : OK h O) (hC : CaL h c F m L) (hx : opL n l x = .ptr c 0) (hy : opL n l y = kD k) (hz : opL n l z = vD v) (hu : opL n l u = .bool b)
    (hk : ∀ h' F', OK h' O → CaL h' c F' m (putL k v b m L).2 → seqQ Try.prog md w ops os ⟨mkSl n ((d, .int .i64 (putL k v b m L).1) :: l), Hp h' O⟩ kk) :
    seqQ Try.prog md w ops (⟨some d, .call ⟨.value (.func 11), #[x, y, z, u], ts⟩, ty, pos, af, none⟩ :: os) ⟨mkSl n l, Hp h O⟩ kk :=
  S_abs (by simp [hx, hy, hz, hu]) (put_calls (hC.up ok) k v b) fun h' ⟨F', hC', fr⟩ => by
    obtain ⟨hb', rfl, ok', hC2⟩ := hC.step ok hC' fr
    exact hk _ _ ok' hC2
theorem S_drop {k : Key} (ok : OK h O) (hC : CaL h c F m L) (hx : opL n l x = .ptr c 0) (hy : opL n l y = kD k)
    (hk : ∀ h' F', OK h' O → CaL h' c F' m (if dropB k L then rem k L else L) → seqQ Try.prog md w ops os ⟨mkSl n ((d, .bool (dropB k L)) :: l), Hp h' O⟩ kk) :
    seqQ Try.prog md w ops (⟨some d, .call ⟨.value (.func 24), #[x, y], ts⟩, ty, pos, af, none⟩ :: os) ⟨mkSl n l, Hp h O⟩ kk :=
  S_abs (by simp [hx, hy]) (drop_calls (hC.up ok) k) fun h' ⟨F', hC', fr⟩ => by
    obtain ⟨hb', rfl, ok', hC2⟩ := hC.step ok hC' fr
    exact hk _ _ ok' hC2
theorem S_pin {k : Key} {β : Type} {f : Unit → Option β} {G : β → Prop} (ok : OK h O) (hC : CaL h c F m L) (hx : opL n l x = .ptr c 0) (hy : opL n l y = kD k) (hF : OptP ((pinG L).bind f) G)
    (hk : ∀ h' F', OK h' O → CaL h' c F' m (if pinB k L then upk k (fun e => { e with pins := e.pins + 1 }) L else L) → OptP (f ()) G → seqQ Try.prog md w ops os ⟨mkSl n ((d, .bool (pinB k L)) :: l), Hp h' O⟩ kk) :
    seqQ Try.prog md w ops (⟨some d, .call ⟨.value (.func 16), #[x, y], ts⟩, ty, pos, af, none⟩ :: os) ⟨mkSl n l, Hp h O⟩ kk :=
  S_abs (by simp [hx, hy]) (pin_calls (hC.up ok) (G_pin hF).1 k) fun h' ⟨hC', fr⟩ => by
    obtain ⟨hb', rfl, ok', hC2⟩ := hC.step ok hC' fr
    exact hk _ _ ok' hC2 (G_pin hF).2
theorem S_unpin {k : Key} {β : Type} {f : Unit → Option β} {G : β → Prop} (ok : OK h O) (hC : CaL h c F m L) (hx : opL n l x = .ptr c 0) (hy : opL n l y = kD k) (hF : OptP ((pinG L).bind f) G)
    (hk : ∀ h' F', OK h' O → CaL h' c F' m (if unpinB k L then upk k (fun e => { e with pins := e.pins - 1 }) L else L) → OptP (f ()) G → seqQ Try.prog md w ops os ⟨mkSl n ((d, .bool (unpinB k L)) :: l), Hp h' O⟩ kk) :
    seqQ Try.prog md w ops (⟨some d, .call ⟨.value (.func 17), #[x, y], ts⟩, ty, pos, af, none⟩ :: os) ⟨mkSl n l, Hp h O⟩ kk :=
  S_abs (by simp [hx, hy]) (unpin_calls (hC.up ok) (G_pin hF).1 k) fun h' ⟨hC', fr⟩ => by
    obtain ⟨hb', rfl, ok', hC2⟩ := hC.step ok hC' fr
    exact hk _ _ ok' hC2 (G_pin hF).2
theorem S_clean {k : Key} (ok : OK h O) (hC : CaL h c F m L) (hx : opL n l x = .ptr c 0) (hy : opL n l y = kD k)
    (hk : ∀ h' F', OK h' O → CaL h' c F' m (if cleanB k L then upk k (fun e => { e with dirty := false }) L else L) → seqQ Try.prog md w ops os ⟨mkSl n ((d, .bool (cleanB k L)) :: l), Hp h' O⟩ kk) :
    seqQ Try.prog md w ops (⟨some d, .call ⟨.value (.func 18), #[x, y], ts⟩, ty, pos, af, none⟩ :: os) ⟨mkSl n l, Hp h O⟩ kk :=
  S_abs (by simp [hx, hy]) (clean_calls (hC.up ok) k) fun h' ⟨hC', fr⟩ => by
    obtain ⟨hb', rfl, ok', hC2⟩ := hC.step ok hC' fr
    exact hk _ _ ok' hC2
theorem S_clen (ok : OK h O) (hC : CaL h c F m L) (hx : opL n l x = .ptr c 0) (hk : seqQ Try.prog md w ops os ⟨mkSl n ((d, .int .i64 (L.length : Int)) :: l), Hp h O⟩ kk) :
    seqQ Try.prog md w ops (⟨some d, .call ⟨.value (.func 15), #[x], ts⟩, ty, pos, af, none⟩ :: os) ⟨mkSl n l, Hp h O⟩ kk :=
  S_abs (by simp [hx]) (len_calls (hC.up ok)) fun h' e => by subst e; exact hk
theorem S_keys {β : Type} {f : Unit → Option β} {G : β → Prop} (ok : OK h O) (hC : CaL h c F m L) (hx : opL n l x = .ptr c 0) (hF : OptP ((lenG L).bind f) G)
    (hk : OptP (f ()) G → seqQ Try.prog md true ops os ⟨mkSl n ((d, .sl 1 ((keysL true L).map kC) 0) :: l), Hp h O⟩ kk) :
    seqQ Try.prog md true ops (⟨some d, .call ⟨.value (.func 13), #[x], ts⟩, ty, pos, af, none⟩ :: os) ⟨mkSl n l, Hp h O⟩ kk :=
  S_acc ok (by simp [hx]) (keysA_calls (hC.up ok) (G_len hF).1) (hk (G_len hF).2)
theorem S_keysS {β : Type} {f : Unit → Option β} {G : β → Prop} (ok : OK h O) (hC : CaL h c F m L) (hx : opL n l x = .ptr c 0) (hF : OptP ((lenG L).bind f) G)
    (hk : OptP (f ()) G → seqQ Try.prog md true ops os ⟨mkSl n ((d, .sl 1 ((keysL true L).map kC) 0) :: l), Hp h O⟩ kk) :
    stepG Try.prog N0 md ops ⟨some d, .call ⟨.value (.func 13), #[x], ts⟩, ty, pos, af, none⟩ ⟨mkSl n l, Hp h O⟩ fun s' => seqQ Try.prog md true ops os s' kk :=
  S_accS ok (by simp [hx]) (keysA_calls (hC.up ok) (G_len hF).1) (hk (G_len hF).2)
theorem S_dirty {β : Type} {f : Unit → Option β} {G : β → Prop} (ok : OK h O) (hC : CaL h c F m L) (hx : opL n l x = .ptr c 0) (hF : OptP ((lenG L).bind f) G)
    (hk : OptP (f ()) G → seqQ Try.prog md true ops os ⟨mkSl n ((d, .sl 1 ((keysL false L).map kC) 0) :: l), Hp h O⟩ kk) :
    seqQ Try.prog md true ops (⟨some d, .call ⟨.value (.func 14), #[x], ts⟩, ty, pos, af, none⟩ :: os) ⟨mkSl n l, Hp h O⟩ kk :=
  S_acc ok (by simp [hx]) (keysD_calls (hC.up ok) (G_len hF).1) (hk (G_len hF).2)
theorem S_dirtyS {β : Type} {f : Unit → Option β} {G : β → Prop} (ok : OK h O) (hC : CaL h c F m L) (hx : opL n l x = .ptr c 0) (hF : OptP ((lenG L).bind f) G)
    (hk : OptP (f ()) G → seqQ Try.prog md true ops os ⟨mkSl n ((d, .sl 1 ((keysL false L).map kC) 0) :: l), Hp h O⟩ kk) :
    stepG Try.prog N0 md ops ⟨some d, .call ⟨.value (.func 14), #[x], ts⟩, ty, pos, af, none⟩ ⟨mkSl n l, Hp h O⟩ fun s' => seqQ Try.prog md true ops os s' kk :=
  S_accS ok (by simp [hx]) (keysD_calls (hC.up ok) (G_len hF).1) (hk (G_len hF).2)
theorem S_keysD {β : Type} {f : Unit → Option β} {G : β → Prop} (ok : OK h O) (hC : CaL h c F m L) (hx : opL n l x = .ptr c 0) (hF : OptP ((lenG L).bind f) G)
    (hk : ∀ r, (r = 0 → keysL true L = []) → OK h ((r, .room) :: O) → OptP (f ()) G → seqQ Try.prog md w ops os ⟨mkSl n ((d, accO 1 r ((keysL true L).map kC)) :: l), Hp h ((r, .room) :: O)⟩ kk) :
    seqQ Try.prog md w ops (⟨some d, .call ⟨.value (.func 13), #[x], ts⟩, ty, pos, af, none⟩ :: os) ⟨mkSl n l, Hp h O⟩ kk :=
  S_accO ok (by simp [hx]) (keysA_calls (hC.up ok) (G_len hF).1) fun r z ok' => hk r z ok' (G_len hF).2
theorem S_dirtyD {β : Type} {f : Unit → Option β} {G : β → Prop} (ok : OK h O) (hC : CaL h c F m L) (hx : opL n l x = .ptr c 0) (hF : OptP ((lenG L).bind f) G)
    (hk : ∀ r, (r = 0 → keysL false L = []) → OK h ((r, .room) :: O) → OptP (f ()) G → seqQ Try.prog md w ops os ⟨mkSl n ((d, accO 1 r ((keysL false L).map kC)) :: l), Hp h ((r, .room) :: O)⟩ kk) :
    seqQ Try.prog md w ops (⟨some d, .call ⟨.value (.func 14), #[x], ts⟩, ty, pos, af, none⟩ :: os) ⟨mkSl n l, Hp h O⟩ kk :=
  S_accO ok (by simp [hx]) (keysD_calls (hC.up ok) (G_len hF).1) fun r z ok' => hk r z ok' (G_len hF).2
end
end I
end Go.Proofs.Ytcjndiagbdkikaa
