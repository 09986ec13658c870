/- Maps in walks: plain entries with their births, one rule an operation, a loop over a map whose order nobody knows. No condition. -/
import Derived.Test.YtcjndiagbdkikaaEng24
set_option linter.unusedSimpArgs false
set_option linter.unusedVariables false
namespace Go.Proofs.Ytcjndiagbdkikaa

/-- A map, plainly: its entries with their births. -/
structure PM (κ ν : Type) where
  es : List (Nat × κ × ν)
  clk : Nat

abbrev vI (n : Int) : D := .int .i64 n
abbrev vB (b : Bool) : D := .bool b

def mE {κ ν : Type} (ck : κ → D) (cv : ν → D) (L : List (Nat × κ × ν)) : List ME := L.map fun x => ⟨x.1, ck x.2.1, cv x.2.2⟩
def mpO {κ ν : Type} (i : Nat) (ck : κ → D) (cv : ν → D) (m : PM κ ν) : Nat × AObj := (i, .map (mE ck cv m.es) m.clk)
def pm0 {κ ν : Type} : PM κ ν := ⟨[], 0⟩

structure KeyOk {κ : Type} [BEq κ] (P : Program) (t : TypeId) (ck : κ → D) : Prop where
  eq : ∀ a b, keyEq (ck a) (ck b) = (a == b)
  is : ∀ a, isKeyD P t (ck a) = true

theorem key_int {P : Program} {t : TypeId} (h : kiD P t = some .i64) : KeyOk P t vI := ⟨fun a b => rfl, fun a => by simp [isKeyD, h]⟩

variable {κ ν : Type} [DecidableEq κ]

def PM.get (m : PM κ ν) (k : κ) : Option ν := (m.es.find? fun x => k == x.2.1).map fun x => x.2.2
def putE (k : κ) (v : ν) (c : Nat) : List (Nat × κ × ν) → List (Nat × κ × ν) × Nat
  | [] => ([(c, k, v)], c + 1)
  | x :: L => if k == x.2.1 then ((x.1, k, v) :: L, c) else (x :: (putE k v c L).1, (putE k v c L).2)
def PM.put (m : PM κ ν) (k : κ) (v : ν) : PM κ ν := ⟨(putE k v m.clk m.es).1, (putE k v m.clk m.es).2⟩
/-- The entry to be turned: the map with it, its value, its birth. -/
def PM.ent (m : PM κ ν) (k : κ) (z : ν) : PM κ ν × ν × Nat := match m.es.find? fun x => k == x.2.1 with
  | some x => (m, x.2.2, x.1)
  | none => (⟨m.es ++ [(m.clk, k, z)], m.clk + 1⟩, z, m.clk)
def setE (b : Nat) (v : ν) : List (Nat × κ × ν) → Option (List (Nat × κ × ν))
  | [] => none
  | x :: L => if x.1 = b then some ((x.1, x.2.1, v) :: L) else (setE b v L).map (x :: ·)
def PM.setB (m : PM κ ν) (b : Nat) (v : ν) : Option (PM κ ν) := (setE b v m.es).map fun es => ⟨es, m.clk⟩
/-- Of each entry, in whatever order. -/
structure PM.Ok (m : PM κ ν) : Prop where
  lt : ∀ x ∈ m.es, x.1 < m.clk
  un : (m.es.map (·.1)).Nodup
instance (m : PM κ ν) : Decidable m.Ok := decidable_of_iff ((∀ x ∈ m.es, x.1 < m.clk) ∧ (m.es.map (·.1)).Nodup) ⟨fun h => ⟨h.1, h.2⟩, fun h => ⟨h.1, h.2⟩⟩
def allM (f : κ → ν → Option Unit) (m : PM κ ν) : Option Unit := if m.Ok ∧ (m.es.all fun x => (f x.2.1 x.2.2).isSome) = true then some () else none

omit [DecidableEq κ] in
theorem allM_spec {f : κ → ν → Option Unit} {m : PM κ ν} {u : Unit} (h : allM f m = some u) : m.Ok ∧ ∀ b k v, (b, k, v) ∈ m.es → f k v = some () := by
  unfold allM at h
  split at h
  · rename_i ha
    refine ⟨ha.1, fun b k v hm => ?_⟩
    have := List.all_eq_true.1 ha.2 _ hm
    obtain ⟨u, hu⟩ := Option.isSome_iff_exists.1 this
    exact hu
  · simp at h

omit [DecidableEq κ] in
theorem PM.Ok.find {m : PM κ ν} (H : m.Ok) {b : Nat} {k : κ} {v : ν} (hm : (b, k, v) ∈ m.es) : (m.es.find? fun x => x.1 == b) = some (b, k, v) := by
  have : ∀ L : List (Nat × κ × ν), (L.map (·.1)).Nodup → (b, k, v) ∈ L → (L.find? fun x => x.1 == b) = some (b, k, v) := by
    intro L
    induction L with
    | nil => intro _ h; simp at h
    | cons y L ih =>
      intro hn h
      simp only [List.map_cons, List.nodup_cons] at hn
      rcases List.mem_cons.1 h with h | h
      · subst h; simp
      · have : y.1 ≠ b := fun e => hn.1 (by rw [e]; exact List.mem_map.2 ⟨_, h, rfl⟩)
        have hb : (y.1 == b) = false := by simpa using this
        rw [List.find?_cons, hb]; exact ih hn.2 h
  exact this _ H.un hm

section
variable {P : Program} {ck : κ → D} {cv : ν → D} {t : TypeId}

theorem mE_find (hK : KeyOk P t ck) (k : κ) : ∀ L : List (Nat × κ × ν), (findM (ck k) (mE ck cv L)) = (L.find? fun x => k == x.2.1).map fun x => ⟨x.1, ck x.2.1, cv x.2.2⟩
  | [] => rfl
  | x :: L => by
    have ih := mE_find hK k L
    simp only [findM, mE, List.map_cons, List.find?_cons, hK.eq] at ih ⊢
    cases hb : k == x.2.1 with
    | true => rfl
    | false => exact ih
theorem mE_ok (hK : KeyOk P t ck) (L : List (Nat × κ × ν)) : keysOk P t (mE ck cv L) = true := by
  simp [keysOk, mE, hK.is]
theorem mE_put (hK : KeyOk P t ck) (k : κ) (v : ν) (c : Nat) : ∀ L : List (Nat × κ × ν), putM (ck k) (cv v) c (mE ck cv L) = (mE ck cv (putE k v c L).1, (putE k v c L).2)
  | [] => rfl
  | x :: L => by
    have ih := mE_put hK k v c L
    simp only [mE, List.map_cons, putM, putE, hK.eq] at ih ⊢
    cases hb : k == x.2.1 with
    | true => rfl
    | false => simp only [if_neg (show ¬ (false = true) by simp), List.map_cons, ih]
theorem mE_same (hK : KeyOk P t ck) (k : κ) (c : Nat) {x : Nat × κ × ν} : ∀ {L : List (Nat × κ × ν)}, (L.find? fun x => k == x.2.1) = some x → (putM (ck k) (cv x.2.2) c (mE ck cv L)).1 = mE ck cv L
  | [], h => by simp at h
  | y :: L, h => by
    simp only [mE, List.map_cons, putM, hK.eq]
    cases hb : k == y.2.1 with
    | true =>
      simp only [List.find?_cons, hb] at h
      injection h with h; subst h
      have : k = y.2.1 := by simpa using hb
      simp [this]
    | false =>
      simp only [List.find?_cons, hb] at h
      have ih := mE_same hK k c h
      simp only [mE] at ih
      simp [ih]
omit [DecidableEq κ] in
theorem mE_set (b : Nat) (v : ν) : ∀ L : List (Nat × κ × ν), setBorn (b : Int) (cv v) (mE ck cv L) = (setE b v L).map (mE ck cv)
  | [] => rfl
  | x :: L => by
    have ih := mE_set b v L
    simp only [mE, List.map_cons, setBorn, setE] at ih ⊢
    by_cases hb : x.1 = b
    · simp [hb, mE]
    · have : ¬ ((x.1 : Int) = b) := by omega
      rw [if_neg this, if_neg hb, ih]
      cases setE b v L <;> rfl
end

section
variable {P : Program} {md : Nat → Nat} {w : Bool} {ops : Array Oper} {os : List Oper} {k : St → Prop} {n : Nat} {l : List (Nat × D)} {h : Heap} {d : Nat} {t kt et ty : TypeId} {pos : String} {af : Array Edge} {x y z : Operand}
variable {β : Type} {G : β → Prop} {O : List (Nat × AObj)} {i j : Nat} {ck : κ → D} {cv : ν → D} {m : PM κ ν}

omit [DecidableEq κ] in
theorem S_mkM (ck : κ → D) (cv : ν → D) (ok : OK h O) (hk : ∀ i, i ≠ 0 → OK h (mpO i ck cv pm0 :: O) → seqQ P md w ops os ⟨mkSl n ((d, .mp i) :: l), Hp h (mpO i ck cv pm0 :: O)⟩ k) :
    seqQ P md w ops (⟨some d, .makeMap t none, ty, pos, af, none⟩ :: os) ⟨mkSl n l, Hp h O⟩ k := S_of (by
  simp only [effD, newMapD]
  intro i hf h0
  obtain ⟨e1, e2⟩ := Hp_new (x := .map [] 0) ok hf h0
  rw [e1]; exact hk i h0 e2)

theorem S_lkM {k0 : κ} {v0 : ν} (ok : OK h O) (hj : O[j]? = some (mpO i ck cv m)) (hi : i ≠ 0) (hx : opL n l x = .mp i) (hy : opL n l y = ck k0) (ht : maD P t = some (kt, et)) (hz : zrD P et = some (cv v0)) (hK : KeyOk P kt ck)
    (hk : seqQ P md w ops os ⟨mkSl n ((d, cv ((m.get k0).getD v0)) :: l), Hp h O⟩ k) : seqQ P md w ops (⟨some d, .lookup t x y false, ty, pos, af, none⟩ :: os) ⟨mkSl n l, Hp h O⟩ k := S_of (by
  have e : lookD P (Hp h O) t (.mp i) (ck k0) false = some (cv ((m.get k0).getD v0)) := by
    simp only [lookD, ht, entriesOf, Hp_get j ok hj hi, hz, mE_ok hK, hK.is, mE_find hK, PM.get]
    cases m.es.find? fun x => k0 == x.2.1 <;> simp
  simp only [effD, hx, hy, e, OptP_some]; exact hk)

theorem S_putM {k0 : κ} {v0 : ν} (ok : OK h O) (hj : O[j]? = some (mpO i ck cv m)) (hi : i ≠ 0) (hx : opL n l x = .mp i) (hy : opL n l y = ck k0) (hz : opL n l z = cv v0) (ht : maD P t = some (kt, et)) (hK : KeyOk P kt ck)
    (hk : OK h (O.set j (mpO i ck cv (m.put k0 v0))) → seqQ P md w ops os ⟨mkSl n l, Hp h (O.set j (mpO i ck cv (m.put k0 v0)))⟩ k) : seqQ P md w ops (⟨none, .mapUpdate t x y z, ty, pos, af, none⟩ :: os) ⟨mkSl n l, Hp h O⟩ k := S_ofN (by
  obtain ⟨e1, e2⟩ := Hp_set (y := .map (mE ck cv (m.put k0 v0).es) (m.put k0 v0).clk) j ok hj hi
  simp only [effD, hx, hy, hz, mapPutD, ht, Hp_get j ok hj hi, mE_ok hK, hK.is, mE_put hK]
  refine ⟨trivial, trivial, ?_⟩
  have := hk e2
  simp only [mpO] at this e1 ⊢
  rw [← e1] at this; exact this)

theorem S_entM {k0 : κ} {v0 : ν} (ok : OK h O) (hj : O[j]? = some (mpO i ck cv m)) (hi : i ≠ 0) (hx : opL n l x = .mp i) (hy : opL n l y = ck k0) (ht : maD P t = some (kt, et)) (hz : zrD P et = some (cv v0)) (hK : KeyOk P kt ck)
    (hk : OK h (O.set j (mpO i ck cv (m.ent k0 v0).1)) → seqQ P md w ops os ⟨mkSl n ((d, .tup [cv (m.ent k0 v0).2.1, .int .i64 ((m.ent k0 v0).2.2 : Int)]) :: l), Hp h (O.set j (mpO i ck cv (m.ent k0 v0).1))⟩ k) :
    seqQ P md w ops (⟨some d, .mapEntry t x y, ty, pos, af, none⟩ :: os) ⟨mkSl n l, Hp h O⟩ k := S_of (by
  obtain ⟨e1, e2⟩ := Hp_set (y := .map (mE ck cv (m.ent k0 v0).1.es) (m.ent k0 v0).1.clk) j ok hj hi
  simp only [effD, hx, hy, mapEntD, ht, Hp_get j ok hj hi, hz, mE_ok hK, hK.is, mE_find hK]
  refine ⟨trivial, trivial, ?_⟩
  have := hk e2
  simp only [mpO] at this e1
  rw [← e1] at this
  simp only [PM.ent] at this
  cases hf : m.es.find? fun x => k0 == x.2.1 with
  | some q =>
    rw [hf] at this
    simp only [Option.map_some, mE_same hK k0 _ hf]
    exact this
  | none =>
    rw [hf] at this
    simp only [Option.map_none]
    simpa only [mE, List.map_append, List.map_cons, List.map_nil] using this)

omit [DecidableEq κ] in
theorem S_entP {b : Nat} {v0 : ν} {f : PM κ ν → Option β} (ok : OK h O) (hj : O[j]? = some (mpO i ck cv m)) (hi : i ≠ 0) (hx : opL n l x = .mp i) (hy : opL n l y = .int .i64 (b : Int)) (hz : opL n l z = cv v0) (hF : OptP ((m.setB b v0).bind f) G)
    (hk : ∀ m', m.setB b v0 = some m' → OK h (O.set j (mpO i ck cv m')) → OptP (f m') G → seqQ P md w ops os ⟨mkSl n l, Hp h (O.set j (mpO i ck cv m'))⟩ k) : seqQ P md w ops (⟨none, .entryStore t x y z, ty, pos, af, none⟩ :: os) ⟨mkSl n l, Hp h O⟩ k := S_ofN (by
  obtain ⟨m', hm, hF⟩ := F_bind hF
  obtain ⟨e1, e2⟩ := Hp_set (y := .map (mE ck cv m'.es) m'.clk) j ok hj hi
  have hs : setBorn (b : Int) (cv v0) (mE ck cv m.es) = some (mE ck cv m'.es) ∧ m.clk = m'.clk := by
    rw [mE_set]
    unfold PM.setB at hm
    cases hq : setE b v0 m.es with
    | none => rw [hq] at hm; simp at hm
    | some es => rw [hq] at hm; simp at hm; subst hm; exact ⟨rfl, rfl⟩
  simp only [effD, hx, hy, hz, entPutD, Hp_get j ok hj hi, hs.1, hs.2]
  have := hk m' hm e2 hF
  simp only [mpO] at this e1 ⊢
  rw [← e1] at this; exact this)

omit [DecidableEq κ] in
theorem S_lenMp (ok : OK h O) (hj : O[j]? = some (mpO i ck cv m)) (hi : i ≠ 0) (hx : opL n l x = .mp i) (ht : (maD P t).isSome = true) (hk : seqQ P md w ops os ⟨mkSl n ((d, .int .i64 (m.es.length : Int)) :: l), Hp h O⟩ k) :
    seqQ P md w ops (⟨some d, .call ⟨.builtin .len, #[x], #[t]⟩, ty, pos, af, none⟩ :: os) ⟨mkSl n l, Hp h O⟩ k := S_of (by
  obtain ⟨⟨kt, et⟩, hma⟩ := Option.isSome_iff_exists.1 ht
  have e : lenD P (Hp h O) t (.mp i) = some (.int .i64 (m.es.length : Int)) := by
    simp only [lenD, und_maD hma, Hp_get j ok hj hi, mE, List.length_map]
  simp only [effD, List.map_cons, List.map_nil, hx, ev_len, e, OptP_some]; exact hk)

omit [DecidableEq κ] in
theorem S_rngM (ok : OK h O) (hj : O[j]? = some (mpO i ck cv m)) (hi : i ≠ 0) (hx : opL n l x = .mp i) (ht : (maD P t).isSome = true)
    (hk : ∀ q, q ≠ 0 → OK h ((q, .miter i m.clk [] m.clk) :: O) → seqQ P md w ops os ⟨mkSl n ((d, .ptr q 0) :: l), Hp h ((q, .miter i m.clk [] m.clk) :: O)⟩ k) :
    seqQ P md w ops (⟨some d, .range t x, ty, pos, af, none⟩ :: os) ⟨mkSl n l, Hp h O⟩ k := S_of (by
  simp only [effD, hx, rangeD, Hp_get j ok hj hi]
  refine ⟨ht, fun q hf h0 => ?_⟩
  obtain ⟨e1, e2⟩ := Hp_new (x := .miter i m.clk [] m.clk) ok hf h0
  rw [e1]; exact hk q h0 e2)

omit [DecidableEq κ] in
theorem S_nxtM {q j2 : Nat} {seen : List Nat} (ok : OK h O) (hj2 : O[j2]? = some (q, .miter i m.clk seen m.clk)) (hq : q ≠ 0) (hj : O[j]? = some (mpO i ck cv m)) (hi : i ≠ 0) (hx : opL n l x = .ptr q 0) (hw : m.Ok)
    (h1 : ∀ b k0 v0, (b, k0, v0) ∈ m.es → b ∉ seen → OK h (O.set j2 (q, .miter i m.clk (seen ++ [b]) m.clk)) → seqQ P md w ops os ⟨mkSl n ((d, .tup [.bool true, ck k0, cv v0]) :: l), Hp h (O.set j2 (q, .miter i m.clk (seen ++ [b]) m.clk))⟩ k)
    (h2 : seqQ P md w ops os ⟨mkSl n ((d, .tup [.bool false]) :: l), Hp h O⟩ k) : seqQ P md w ops (⟨some d, .next x false, ty, pos, af, none⟩ :: os) ⟨mkSl n l, Hp h O⟩ k := S_of (by
  simp only [effD, hx, nextD, Hp_get j2 ok hj2 hq, Hp_get j ok hj hi]
  refine ⟨?_, fun _ => h2, fun e he hn => ?_⟩
  · cases he : m.es with
    | nil => exact .inr (.inl rfl)
    | cons p L => exact .inr (.inr ⟨⟨p.1, ck p.2.1, cv p.2.2⟩, by simp [mE], hw.lt p (by rw [he]; simp)⟩)
  · obtain ⟨⟨b, k0, v0⟩, hm, rfl⟩ := List.mem_map.1 he
    obtain ⟨e1, e2⟩ := Hp_set (y := .miter i m.clk (seen ++ [b]) m.clk) j2 ok hj2 hq
    have := h1 b k0 v0 hm hn e2
    rw [← e1] at this; exact this)
end

section
variable {P : Program} {md : Nat → Nat} {w : Bool} {ops : Array Oper} {os : List Oper} {k : St → Prop} {n : Nat} {l : List (Nat × D)} {h : Heap} {d : Nat} {ty : TypeId} {pos : String} {af : Array Edge} {x : Operand} {O : List (Nat × AObj)} {i j : Nat} {ck : κ → D} {cv : ν → D} {m : PM κ ν}
omit [DecidableEq κ] in
theorem S_entry {q j2 b c0 : Nat} {seen : List Nat} {k0 : κ} {v0 : ν} (ok : OK h O) (hj2 : O[j2]? = some (q, .miter i c0 (seen ++ [b]) m.clk)) (hq : q ≠ 0) (hj : O[j]? = some (mpO i ck cv m)) (hi : i ≠ 0) (hx : opL n l x = .ptr q 0) (hw : m.Ok) (hm : (b, k0, v0) ∈ m.es)
    (hk : seqQ P md w ops os ⟨mkSl n ((d, .tup [ck k0, cv v0]) :: l), Hp h O⟩ k) : seqQ P md w ops (⟨some d, .entry x, ty, pos, af, none⟩ :: os) ⟨mkSl n l, Hp h O⟩ k := S_of (by
  have e : entryD (Hp h O) (.ptr q 0) = some (.tup [ck k0, cv v0]) := by
    have hl : (seen ++ [b]).getLast? = some b := by simp
    have hf : ((mE ck cv m.es).find? fun e => e.born == b) = some ⟨b, ck k0, cv v0⟩ := by
      have := hw.find hm
      simp only [mE, List.find?_map]
      have e2 : ((fun e : ME => e.born == b) ∘ fun x : Nat × κ × ν => (⟨x.1, ck x.2.1, cv x.2.2⟩ : ME)) = fun x : Nat × κ × ν => x.1 == b := rfl
      rw [e2, this]; rfl
    simp only [entryD, Hp_get j2 ok hj2 hq, Hp_get j ok hj hi, hl, if_true, hf, Option.map_some]
  simp only [effD, hx, e, OptP_some]; exact hk)
end

section
variable {P : Program} {Q : Exit → St → Prop} {s : St} {β : Type} {G : β → Prop}
omit [DecidableEq κ] in
theorem left_lt {es : List (Nat × κ × ν)} {seen : List Nat} {b : Nat} {k : κ} {v : ν} (hm : (b, k, v) ∈ es) (hn : b ∉ seen) :
    (es.filter fun x => decide (x.1 ∉ seen ++ [b])).length < (es.filter fun x => decide (x.1 ∉ seen)).length := by
  have hle : ∀ l : List (Nat × κ × ν), (l.filter fun x => decide (x.1 ∉ seen ++ [b])).length ≤ (l.filter fun x => decide (x.1 ∉ seen)).length := fun l => by
    induction l with
    | nil => simp
    | cons y l ih =>
      simp only [List.filter_cons]
      by_cases h1 : y.1 ∈ seen
      · simp [h1] at ih ⊢; exact ih
      · by_cases h2 : y.1 = b
        · simp [h2, hn] at ih ⊢; omega
        · simp [h1, h2] at ih ⊢; exact ih
  induction es with
  | nil => simp at hm
  | cons y l ih =>
    have hl := hle l
    simp only [List.filter_cons]
    rcases List.mem_cons.1 hm with h | h
    · have hy : y.1 = b := by rw [← h]
      simp [hy, hn] at hl ⊢; omega
    · have := ih h
      by_cases h1 : y.1 ∈ seen
      · simp [h1] at this ⊢; exact this
      · by_cases h2 : y.1 = b
        · simp [h2, hn] at this hl ⊢; omega
        · simp [h1, h2] at this ⊢; exact this

omit [DecidableEq κ] in
/-- A loop over a map: what holds of each entry holds in whatever order. -/
theorem C_mloop {c : Code} {f : κ → ν → Option Unit} {m : PM κ ν} {K : Unit → Option β} (hF : OptP ((allM f m).bind K) G) (R : List Nat → St → Prop) (hR : R [] s)
    (hs : m.Ok → (∀ b k v, (b, k, v) ∈ m.es → OptP (f k v) fun _ => True) → OptP (K ()) G → ∀ (seen : List Nat) (s' : St),
      (∀ b k v, (b, k, v) ∈ m.es → b ∉ seen → ∀ t, R (seen ++ [b]) t → LW P c Q t) → R seen s' → WP P c (Exit.sel (LW P c Q) Q) s') : WP P (.loop c) Q s := by
  obtain ⟨u, hu, hF⟩ := F_bind hF
  have ha := allM_spec hu
  refine WP_loop ?_
  have key : ∀ (n : Nat) (seen : List Nat) (s' : St), (m.es.filter fun x => decide (x.1 ∉ seen)).length = n → R seen s' → LW P c Q s' := by
    intro n
    induction n using Nat.strongRecOn with
    | _ n ih =>
      intro seen s' hn hr
      refine LW_step (hs ha.1 (fun b k v hm => ⟨(), ha.2 b k v hm, trivial⟩) hF seen s' (fun b k v hm hb t ht => ?_) hr)
      exact ih _ (by rw [← hn]; exact left_lt hm hb) _ t rfl ht
  exact key _ [] s rfl hR
end
end Go.Proofs.Ytcjndiagbdkikaa
