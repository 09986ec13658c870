/- Maps, and ranging over maps and strings: the model does what the abstract machine does. No condition. -/
import Derived.Test.YtocfjohangcajaaDoorEng6
import Derived.Laws.NewFold
set_option linter.unusedSimpArgs false
set_option linter.unusedVariables false
namespace Go.Proofs.YtocfjohangcajaaDoor

/-- Two flags. -/
def flags2 (P : Program) (t : TypeId) : Bool := match arD P t with
  | some (n, e) => n == 2 && boD P e && szD P e == some 1 && agD P e == some false
  | none => false

/-- Is it a key of that type? -/
def isKeyD (P : Program) (t : TypeId) : D → Bool
  | .int k _ => kiD P t == some k
  | .str _ => stD P t
  | .bool _ => boD P t
  | .agg [.bool _, .bool _] => flags2 P t
  | _ => false

def keyEq : D → D → Bool
  | .int _ a, .int _ b => a == b
  | .str a, .str b => a == b
  | .bool a, .bool b => a == b
  | .agg [.bool a, .bool b], .agg [.bool c, .bool d] => a == c && b == d
  | _, _ => false

def keysOk (P : Program) (t : TypeId) (es : List ME) : Bool := es.all fun e => isKeyD P t e.key

def entriesOf (h : Heap) : D → Option (List ME)
  | .mnil => some []
  | .mp id => match h id with
    | some (.map es _) => some es
    | _ => none
  | _ => none

def findM (key : D) (es : List ME) : Option ME := es.find? fun e => keyEq key e.key

def lookD (P : Program) (h : Heap) (t : TypeId) (x key : D) (ok : Bool) : Option D :=
  match maD P t with
  | none => none
  | some (kt, et) => match entriesOf h x with
    | none => none
    | some es => match zrD P et with
      | none => none
      | some z => if keysOk P kt es = true ∧ isKeyD P kt key = true then
          some (if ok then .tup [((findM key es).map (·.val)).getD z, .bool (findM key es).isSome] else ((findM key es).map (·.val)).getD z)
        else none

/-- A value put into a map. -/
def putM (key val : D) (clock : Nat) : List ME → List ME × Nat
  | [] => ([⟨clock, key, val⟩], clock + 1)
  | e :: es => if keyEq key e.key then (⟨e.born, key, val⟩ :: es, clock) else (e :: (putM key val clock es).1, (putM key val clock es).2)

def mapPutD (P : Program) (h : Heap) (t : TypeId) (m key val : D) (R : Heap → Prop) : Prop :=
  match maD P t, m with
  | some (kt, _), .mp id => match h id with
    | some (.map es clock) => keysOk P kt es = true ∧ isKeyD P kt key = true ∧ R (h.upd id (some (.map (putM key val clock es).1 (putM key val clock es).2)))
    | _ => False
  | _, _ => False

def delM (key : D) : List ME → List ME
  | [] => []
  | e :: es => if keyEq key e.key then es else e :: delM key es

def mapDelD (P : Program) (h : Heap) (t : TypeId) (m key : D) (R : Heap → Prop) : Prop :=
  match maD P t, m with
  | some (kt, _), .mp id => match h id with
    | some (.map es clock) => keysOk P kt es = true ∧ isKeyD P kt key = true ∧ R (h.upd id (some (.map (delM key es) clock)))
    | _ => False
  | _, _ => False

section
variable {P : Program} {K : Kn} {h : Heap} {w : World}

theorem VR_flags {v : Value} {a b : Bool} (h : VR K v (.agg [.bool a, .bool b])) : v = .agg #[.bool a, .bool b] := by
  cases h with
  | agg x _ hx h1 hv =>
    have e0 : x.getD 0 undef = .bool a := by
      have : VR K (x.getD 0 undef) (.bool a) := hv 0
      generalize x.getD 0 undef = z at this; cases this; rfl
    have e1 : x.getD 1 undef = .bool b := by
      have : VR K (x.getD 1 undef) (.bool b) := hv 1
      generalize x.getD 1 undef = z at this; cases this; rfl
    have hx : x.size = 2 := hx
    congr 1
    refine Array.ext (by simpa using hx) fun i h2 h3 => ?_
    have hg : x[i] = x.getD i undef := by simp [Array.getD, h2]
    rw [hg]
    match i with
    | 0 => exact e0
    | 1 => exact e1
    | i + 2 => exact absurd (show i + 2 < 2 from h3) (by omega)

theorem flags2_spec {t : TypeId} (h : flags2 P t = true) : ∃ e, P.underlying t = some (.array 2 e) ∧ P.underlying e = some .bool ∧ szD P e = some 1 ∧ agD P e = some false := by
  unfold flags2 at h
  split at h
  · rename_i n e ha
    simp only [Bool.and_eq_true, beq_iff_eq] at h
    obtain ⟨⟨⟨rfl, h1⟩, h2⟩, h3⟩ := h
    exact ⟨e, und_arD ha, und_boD h1, h2, h3⟩
  · simp at h

theorem isKeyD_flags {t : TypeId} {d : D} (h : flags2 P t = true) (hd : isKeyD P t d = true) : ∃ a b, d = .agg [.bool a, .bool b] := by
  obtain ⟨e, hu, _⟩ := flags2_spec h
  unfold isKeyD at hd
  split at hd
  · have := und_kiD (t := t) (by simpa using hd); rw [hu] at this; simp at this
  · have := und_stD hd; rw [hu] at this; simp at this
  · have := und_boD hd; rw [hu] at this; simp at this
  · exact ⟨_, _, rfl⟩
  · simp at hd

theorem run_flag {e : TypeId} (h2 : szD P e = some 1) (h3 : agD P e = some false) (a b : Bool) : (part e #[Value.bool a, .bool b] 0).run P w = .ok (.bool a) w ∧ (part e #[Value.bool a, .bool b] 1).run P w = .ok (.bool b) w := by
  constructor <;> simp [part, run_isAggD h3]

theorem isKeyD_check {t : TypeId} {v : Value} {d : D} (hv : VR K v d) (hk : isKeyD P t d = true) (b : Bool) (n : Nat) : (Instr.checkKey b (n + 2) t v).run P w = .ok () w := by
  unfold isKeyD at hk
  split at hk
  · cases hv
    have := und_kiD (by simpa using hk)
    simp [Instr.checkKey, run_underlying this]
  · cases hv
    simp [Instr.checkKey, run_underlying (und_stD hk)]
  · cases hv
    simp [Instr.checkKey, run_underlying (und_boD hk)]
  · rename_i x y
    obtain ⟨e, hu, hb, h2, h3⟩ := flags2_spec hk
    rw [VR_flags hv]
    obtain ⟨p0, p1⟩ := run_flag (w := w) h2 h3 x y
    simp [Instr.checkKey, run_underlying hu, run_underlying hb, run_sizeOfD h2, Std.Legacy.Range.forIn_eq_forIn_range', Std.Legacy.Range.size, List.range', p0, p1]
  · simp at hk

theorem equal_flags {t : TypeId} (hk : flags2 P t = true) (a b c d : Bool) : (Op.equal t (.agg #[.bool a, .bool b]) (.agg #[.bool c, .bool d])).run P w = .ok (a == c && b == d) w := by
  obtain ⟨e, hu, hb, h2, h3⟩ := flags2_spec hk
  obtain ⟨p0, p1⟩ := run_flag (w := w) h2 h3 a b
  obtain ⟨q0, q1⟩ := run_flag (w := w) h2 h3 c d
  have hq : ∀ (n : Nat) (x y : Bool), (Op.equalIn (n + 1) e (.bool x) (.bool y)).run P w = .ok (x == y) w := fun n x y => by simp [Op.equalIn, run_underlying hb]
  have hall : ∀ n : Nat, (Op.equalIn (n + 2) t (.agg #[.bool a, .bool b]) (.agg #[.bool c, .bool d])).run P w = .ok (a == c && b == d) w := fun n => by
    rw [Op.equalIn]
    have hq' := hq n
    cases a <;> cases b <;> cases c <;> cases d <;>
      simp [run_underlying hu, run_sizeOfD h2, Std.Legacy.Range.forIn_eq_forIn_range', Std.Legacy.Range.size, List.range', p0, p1, q0, q1, hq']
  exact hall 9998

theorem sameNow_key {t : TypeId} {u v : Value} {d e : D} (hu : VR K u d) (hv : VR K v e) (hn : flags2 P t = false) (hd : isKeyD P t d = true) (he : isKeyD P t e = true) :
    ∃ ty, P.underlying t = some ty ∧ Instr.sameNow ty u v = some (keyEq d e) ∧ (keyEq d e = true → u = v) := by
  unfold isKeyD at hd he
  split at hd
  · have hu' := und_kiD (t := t) (by simpa using hd)
    split at he
    · have hv' := und_kiD (t := t) (by simpa using he)
      rw [hu'] at hv'
      simp at hv'
      subst hv'
      cases hu; cases hv
      refine ⟨_, hu', by simp [Instr.sameNow, keyEq], fun h => ?_⟩
      simp [keyEq] at h; rw [h]
    · rw [und_stD he] at hu'; simp at hu'
    · rw [und_boD he] at hu'; simp at hu'
    · rw [hn] at he; simp at he
    · simp at he
  · have hu' := und_stD hd
    split at he
    · have hv' := und_kiD (t := t) (by simpa using he)
      rw [hu'] at hv'; simp at hv'
    · cases hu; cases hv
      rename_i a b
      refine ⟨_, hu', by simp [Instr.sameNow, keyEq, beq_toListBytes], fun h => ?_⟩
      simp [keyEq] at h; rw [h]
    · rw [und_boD he] at hu'; simp at hu'
    · rw [hn] at he; simp at he
    · simp at he
  · have hu' := und_boD hd
    split at he
    · have hv' := und_kiD (t := t) (by simpa using he)
      rw [hu'] at hv'; simp at hv'
    · rw [und_stD he] at hu'; simp at hu'
    · cases hu; cases hv
      refine ⟨_, hu', by simp [Instr.sameNow, keyEq], fun h => ?_⟩
      simp [keyEq] at h; rw [h]
    · rw [hn] at he; simp at he
    · simp at he
  · rw [hn] at hd; simp at hd
  · simp at hd

/-- Where a key stands. -/
def posM (key : D) : List ME → Nat → Option Nat
  | [], _ => none
  | e :: es, i => if keyEq key e.key then some i else posM key es (i + 1)

theorem findNow_key {t : TypeId} {ty : TypeDesc} {u : Value} {d : D} (hn : flags2 P t = false) (hty : P.underlying t = some ty) (hu : VR K u d) (hd : isKeyD P t d = true) : ∀ (xs : List MapEntry) (es : List ME) (i : Nat), EntriesOk K xs es → keysOk P t es = true →
    (posM d es i = none ∧ findM d es = none ∧ Instr.findNow ty u xs i = some none) ∨
    (∃ j x e, posM d es i = some (i + j) ∧ xs[j]? = some x ∧ es[j]? = some e ∧ findM d es = some e ∧ Instr.findNow ty u xs i = some (some (i + j, x.val)) ∧ x.key = u ∧ x.born = e.born ∧ VR K x.val e.val)
  | [], [], i, _, _ => .inl ⟨rfl, rfl, rfl⟩
  | x :: xs, e :: es, i, ⟨hb, hk, hv, hr⟩, ho => by
    simp only [keysOk, List.all_cons, Bool.and_eq_true] at ho
    obtain ⟨ty', h1, h2, h3⟩ := sameNow_key hu hk hn hd ho.1
    rw [hty] at h1
    injection h1 with h1; subst h1
    by_cases hq : keyEq d e.key = true
    · right
      refine ⟨0, x, e, by simp [posM, hq], rfl, rfl, by simp [findM, hq], by simp [Instr.findNow, h2, hq], (h3 hq).symm, hb, hv⟩
    · have hq' : keyEq d e.key = false := by simpa using hq
      rcases findNow_key hn hty hu hd xs es (i + 1) hr ho.2 with ⟨a1, a2, a3⟩ | ⟨j, y, f, a1, a2, a3, a4, a5, a6⟩
      · left
        refine ⟨by simp [posM, hq', a1], ?_, by simp [Instr.findNow, h2, hq', a3]⟩
        simp only [findM] at a2 ⊢
        simp [hq', a2]
      · right
        refine ⟨j + 1, y, f, by simp [posM, hq', a1]; omega, by simpa using a2, by simpa using a3, ?_, ?_, a6⟩
        · simp only [findM] at a4 ⊢
          simp [hq', a4]
        · simp [Instr.findNow, h2, hq', a5]; omega
  | [], _ :: _, _, h, _ => h.elim
  | _ :: _, [], _, h, _ => h.elim

theorem findAsk_key {t : TypeId} {u : Value} {d : D} (hn : flags2 P t = true) (hu : VR K u d) (hd : isKeyD P t d = true) : ∀ (xs : List MapEntry) (es : List ME) (i : Nat), EntriesOk K xs es → keysOk P t es = true →
    (posM d es i = none ∧ findM d es = none ∧ (Instr.findAsking t u xs i).run P w = .ok none w) ∨
    (∃ j x e, posM d es i = some (i + j) ∧ xs[j]? = some x ∧ es[j]? = some e ∧ findM d es = some e ∧ (Instr.findAsking t u xs i).run P w = .ok (some (i + j, x.val)) w ∧ x.key = u ∧ x.born = e.born ∧ VR K x.val e.val)
  | [], [], i, _, _ => .inl ⟨rfl, rfl, by simp [Instr.findAsking]⟩
  | x :: xs, e :: es, i, ⟨hb, hk, hv, hr⟩, ho => by
    simp only [keysOk, List.all_cons, Bool.and_eq_true] at ho
    have hq : ∃ q, (Op.equal t u x.key).run P w = .ok q w ∧ keyEq d e.key = q ∧ (q = true → x.key = u) := by
      obtain ⟨a, b, rfl⟩ := isKeyD_flags hn hd
      obtain ⟨c, f, hce⟩ := isKeyD_flags hn ho.1
      rw [hce] at hk ⊢
      rw [VR_flags hu, VR_flags hk]
      refine ⟨_, equal_flags hn a b c f, rfl, fun h => ?_⟩
      simp at h; rw [h.1, h.2]
    obtain ⟨q, h1, h2, h3⟩ := hq
    cases q with
    | true =>
      right
      exact ⟨0, x, e, by simp [posM, h2], rfl, rfl, by simp [findM, h2], by simp [Instr.findAsking, h1], h3 rfl, hb, hv⟩
    | false =>
      rcases findAsk_key hn hu hd xs es (i + 1) hr ho.2 with ⟨a1, a2, a3⟩ | ⟨j, y, f, a1, a2, a3, a4, a5, a6⟩
      · left
        refine ⟨by simp [posM, h2, a1], ?_, by simp [Instr.findAsking, h1, a3]⟩
        simp only [findM] at a2 ⊢
        simp [h2, a2]
      · right
        refine ⟨j + 1, y, f, by simp [posM, h2, a1]; omega, by simpa using a2, by simpa using a3, ?_, ?_, a6⟩
        · simp only [findM] at a4 ⊢
          simp [h2, a4]
        · simp [Instr.findAsking, h1, a5]; omega
  | [], _ :: _, _, h, _ => h.elim
  | _ :: _, [], _, h, _ => h.elim

theorem findKey_key {t : TypeId} {u : Value} {d : D} (hu : VR K u d) (hd : isKeyD P t d = true) {xs : List MapEntry} {es : List ME} (he : EntriesOk K xs es) (ho : keysOk P t es = true) :
    (posM d es 0 = none ∧ findM d es = none ∧ (Instr.findKey t u xs).run P w = .ok none w) ∨
    (∃ j x e, posM d es 0 = some j ∧ xs[j]? = some x ∧ es[j]? = some e ∧ findM d es = some e ∧ (Instr.findKey t u xs).run P w = .ok (some (j, x.val)) w ∧ x.key = u ∧ x.born = e.born ∧ VR K x.val e.val) := by
  cases hn : flags2 P t with
  | true =>
    obtain ⟨et, hty, _⟩ := flags2_spec hn
    have hnow : Instr.findNow (.array 2 et) u xs 0 = none ∨ xs = [] := by
      cases xs with
      | nil => exact .inr rfl
      | cons x xs =>
        obtain ⟨a, b, hdd⟩ := isKeyD_flags hn hd
        rw [hdd] at hu
        rw [VR_flags hu]
        exact .inl (by simp [Instr.findNow, Instr.sameNow])
    rcases findAsk_key (w := w) hn hu hd xs es 0 he ho with ⟨a1, a2, a3⟩ | ⟨j, x, e, a1, a2, a3, a4, a5, a6⟩
    · refine .inl ⟨a1, a2, ?_⟩
      rcases hnow with h | h
      · simp [Instr.findKey, run_underlying hty, h, a3]
      · subst h; simp [Instr.findKey, run_underlying hty, Instr.findNow]
    · refine .inr ⟨j, x, e, by simpa using a1, a2, a3, a4, ?_, a6⟩
      rcases hnow with h | h
      · simp [Instr.findKey, run_underlying hty, h, a5]
      · subst h; simp at a2
  | false =>
  obtain ⟨ty, hty, _, _⟩ := sameNow_key hu hu hn hd hd
  rcases findNow_key hn hty hu hd xs es 0 he ho with ⟨a1, a2, a3⟩ | ⟨j, x, e, a1, a2, a3, a4, a5, a6⟩
  · exact .inl ⟨a1, a2, by simp [Instr.findKey, run_underlying hty, a3]⟩
  · refine .inr ⟨j, x, e, by simpa using a1, a2, a3, a4, ?_, a6⟩
    simp [Instr.findKey, run_underlying hty, a5]

theorem zrD_spec {t : TypeId} {z : D} (hz : zrD P t = some z) : ∃ v, (∀ w : World, (zeroValue t).run P w = .ok v w) ∧ ∀ K, VR K v z := by
  unfold zrD at hz
  cases hi : P.info? t with
  | none => simp [hi] at hz
  | some i =>
    cases hq : i.zero with
    | none => simp [hi, hq] at hz
    | some v =>
      simp [hi, hq] at hz
      subst hz
      exact ⟨v, fun w => by simp [zeroValue, typeInfo, hi, hq], fun K => ofV_rel K v⟩

theorem lookup_run {t kt et : TypeId} {vx vk : Value} {ok : Bool} {xs : Array MapEntry} (hmu : P.underlying t = some (.map kt et)) (hsrc : (vx = .map none ∧ xs = #[]) ∨ ∃ r c, vx = .map (some r) ∧ (getObj r).run P w = .ok (.map xs c) w)
    (hck : (Instr.checkKey xs.isEmpty 10000 kt vk).run P w = .ok () w) (r : Option (Nat × Value)) (hr : (Instr.findKey kt vk xs.toList).run P w = .ok r w) (v : Value) (fnd : Bool)
    (hv : match r with | some p => v = p.2 ∧ fnd = true | none => (zeroValue et).run P w = .ok v w ∧ fnd = false) :
    (Instr.lookup t vx vk ok).run P w = .ok (if ok then .tuple #[v, .bool fnd] else v) w := by
  rcases hsrc with ⟨rfl, rfl⟩ | ⟨g, c, rfl, hg⟩
  · cases r with
    | none => obtain ⟨h1, rfl⟩ := hv; simp at hck hr; simp [Instr.lookup, run_underlying hmu, hck, hr, h1]
    | some p => obtain ⟨rfl, rfl⟩ := hv; simp at hck hr; simp [Instr.lookup, run_underlying hmu, hck, hr]
  · cases r with
    | none => obtain ⟨h1, rfl⟩ := hv; simp [Instr.lookup, run_underlying hmu, hg, hck, hr, h1]
    | some p => obtain ⟨rfl, rfl⟩ := hv; simp [Instr.lookup, run_underlying hmu, hg, hck, hr]

theorem lookD_sound (H : HR K h w) {t : TypeId} {x key e : D} {ok : Bool} {vx vk : Value} (hx : VR K vx x) (hk : VR K vk key) (hl : lookD P h t x key ok = some e) : Says P K w (Instr.lookup t vx vk ok) e := by
  unfold lookD at hl
  split at hl
  · simp at hl
  · rename_i kt et hm
    split at hl
    · simp at hl
    · rename_i es hes
      split at hl
      · simp at hl
      · rename_i z hz
        split at hl
        · rename_i hc
          obtain ⟨ho, hkk⟩ := hc
          injection hl with hl
          have hmu := und_maD hm
          obtain ⟨zv, hzr, hza⟩ := zrD_spec hz
          have hget : ∃ xs : Array MapEntry, EntriesOk K xs.toList es ∧ ((vx = .map none ∧ xs = #[]) ∨ ∃ r c, vx = .map (some r) ∧ (getObj r).run P w = .ok (.map xs c) w) := by
            unfold entriesOf at hes
            split at hes
            · injection hes with hes; subst hes
              cases hx
              exact ⟨#[], trivial, .inl ⟨rfl, rfl⟩⟩
            · rename_i id
              split at hes
              · rename_i es' clock hid
                injection hes with hes; subst hes
                cases hx
                obtain ⟨xs, hxs, he⟩ := H.ok id _ hid
                refine ⟨xs, he, .inr ⟨_, clock, rfl, ?_⟩⟩
                simp [getObj, Sem.run, hxs]
              · simp at hes
            · simp at hes
          obtain ⟨xs, he, hsrc⟩ := hget
          have hck := isKeyD_check (P := P) (w := w) hk hkk xs.isEmpty 9998
          have hlk := lookup_run (P := P) (w := w) (ok := ok) hmu hsrc hck
          rcases findKey_key (P := P) (w := w) hk hkk he ho with ⟨_, a2, a3⟩ | ⟨j, x', e', _, _, _, a4, a5, _, _, a8⟩
          · have := hlk none a3 zv false (by simp [hzr])
            rw [a2] at hl
            simp at hl
            subst hl
            refine ⟨_, this, ?_⟩
            cases ok
            · exact hza K
            · refine .tup _ _ rfl (fun i => ?_)
              match i with
              | 0 => exact hza K
              | 1 => exact .bool _
              | i + 2 => exact .any _
          · have := hlk _ a5 x'.val true (by simp)
            rw [a4] at hl
            simp at hl
            subst hl
            refine ⟨_, this, ?_⟩
            cases ok
            · exact a8
            · refine .tup _ _ rfl (fun i => ?_)
              match i with
              | 0 => exact a8
              | 1 => exact .bool _
              | i + 2 => exact .any _
        · simp at hl

theorem sameBits_key {t : TypeId} {u : Value} {d : D} (hu : VR K u d) (hd : isKeyD P t d = true) : Instr.sameBits 10000 u u = true := by
  unfold isKeyD at hd
  split at hd
  · cases hu; simp [Instr.sameBits]
  · cases hu; simp [Instr.sameBits, beq_toListBytes]
  · cases hu; simp [Instr.sameBits]
  · rw [VR_flags hu]; simp [Instr.sameBits]
  · simp at hd

theorem putM_new {key val : D} {clock : Nat} : ∀ {es : List ME} {i : Nat}, posM key es i = none → putM key val clock es = (es ++ [⟨clock, key, val⟩], clock + 1)
  | [], _, _ => rfl
  | e :: es, i, hp => by
    simp only [posM] at hp
    split at hp
    · simp at hp
    · rename_i hq
      simp [putM, hq, putM_new hp]

theorem putM_old {key val : D} {clock : Nat} : ∀ {es : List ME} {i j : Nat} {e : ME}, posM key es i = some (i + j) → es[j]? = some e → putM key val clock es = (es.set j ⟨e.born, key, val⟩, clock)
  | [], _, _, _, hp, _ => by simp [posM] at hp
  | f :: es, i, j, e, hp, he => by
    simp only [posM] at hp
    split at hp
    · rename_i hq
      have : j = 0 := by simp at hp; omega
      subst this
      simp at he; subst he
      simp [putM, hq]
    · rename_i hq
      cases j with
      | zero =>
        exfalso
        have : ∀ (es : List ME) (a b : Nat), posM key es a = some b → a ≤ b := fun es => by
          induction es with
          | nil => intro a b h; simp [posM] at h
          | cons x xs ih =>
            intro a b h
            simp only [posM] at h
            split at h
            · simp at h; omega
            · have := ih _ _ h; omega
        have := this _ _ _ hp
        omega
      | succ j =>
        have := putM_old (key := key) (val := val) (clock := clock) (es := es) (i := i + 1) (j := j) (e := e) (by rw [hp]; congr 1; omega) (by simpa using he)
        simp [putM, hq, this]

theorem EntriesOk.push : ∀ {xs : List MapEntry} {es : List ME} {x : MapEntry} {e : ME}, EntriesOk K xs es → x.born = e.born → VR K x.key e.key → VR K x.val e.val → EntriesOk K (xs ++ [x]) (es ++ [e])
  | [], [], _, _, _, a, b, c => ⟨a, b, c, trivial⟩
  | _ :: _, _ :: _, _, _, ⟨p, q, r, s⟩, a, b, c => ⟨p, q, r, s.push a b c⟩
  | [], _ :: _, _, _, h, _, _, _ => h.elim
  | _ :: _, [], _, _, h, _, _, _ => h.elim

theorem EntriesOk.set : ∀ {xs : List MapEntry} {es : List ME} {j : Nat} {x : MapEntry} {e : ME}, EntriesOk K xs es → x.born = e.born → VR K x.key e.key → VR K x.val e.val → EntriesOk K (xs.set j x) (es.set j e)
  | [], [], _, _, _, _, _, _, _ => trivial
  | _ :: _, _ :: _, 0, _, _, ⟨_, _, _, s⟩, a, b, c => ⟨a, b, c, s⟩
  | _ :: _, _ :: _, j + 1, _, _, ⟨p, q, r, s⟩, a, b, c => ⟨p, q, r, s.set a b c⟩
  | [], _ :: _, _, _, _, h, _, _, _ => h.elim
  | _ :: _, [], _, _, _, h, _, _, _ => h.elim

theorem EntriesOk.erase : ∀ {xs : List MapEntry} {es : List ME} {j : Nat}, EntriesOk K xs es → EntriesOk K (xs.eraseIdx j) (es.eraseIdx j)
  | [], [], _, _ => trivial
  | _ :: _, _ :: _, 0, ⟨_, _, _, s⟩ => s
  | _ :: _, _ :: _, j + 1, ⟨p, q, r, s⟩ => ⟨p, q, r, s.erase⟩
  | [], _ :: _, _, h => h.elim
  | _ :: _, [], _, h => h.elim

theorem getObj_map (H : HR K h w) {id : Nat} {es : List ME} {clock : Nat} (hx : h id = some (.map es clock)) : ∃ xs, w.heap[K.io id]? = some (.map xs clock) ∧ EntriesOk K xs.toList es ∧ (getObj (K.io id)).run P w = .ok (.map xs clock) w := by
  obtain ⟨xs, hxs, he⟩ := H.ok id _ hx
  exact ⟨xs, hxs, he, by simp [getObj, Sem.run, hxs]⟩

theorem setObj_run {g : Nat} {o ob : Obj} (hg : w.heap[g]? = some o) (ho : ∀ c t f, o ≠ .cells c t f) : (setObj g ob).run P w = .ok () { w with heap := w.heap.setIfInBounds g ob } := by
  simp only [setObj, Sem.run, hg]

theorem modify_toList (xs : Array MapEntry) (j : Nat) (f : MapEntry → MapEntry) (x : MapEntry) (hx : xs.toList[j]? = some x) : (xs.modify j f).toList = xs.toList.set j (f x) := by
  apply List.ext_getElem?
  intro i
  rw [Array.getElem?_toList, Array.getElem?_modify, List.getElem?_set]
  by_cases h : j = i
  · subst h
    have hl : j < xs.toList.length := (List.getElem?_eq_some_iff.1 hx).1
    rw [Array.getElem?_toList] at hx
    rw [hx]
    simp at hl
    simp [hl]
  · simp [h]

/-- The map of a number is turned. -/
theorem HR.setMap (H : HR K h w) {id : Nat} {es es' : List ME} {clock clock' : Nat} (hx : h id = some (.map es clock)) {xs : Array MapEntry} (he : EntriesOk K xs.toList es') :
    HR K (h.upd id (some (.map es' clock'))) { w with heap := w.heap.setIfInBounds (K.io id) (.map xs clock') } := by
  refine H.setObj hx (by simp) (by simp) (by simp) _ (fun K' hK => ?_)
  subst hK
  exact ⟨xs, set_get (own_lt H hx (o := 0) rfl), he⟩

theorem mapPutD_sound (H : HR K h w) {t : TypeId} {m key val : D} {vm vk vv : Value} {R : Heap → Prop} (hm : VR K vm m) (hk : VR K vk key) (hv : VR K vv val) (hR : mapPutD P h t m key val R) :
    ∃ w' h', (Instr.mapUpdate t vm vk vv).run P w = .ok () w' ∧ HR K h' w' ∧ R h' := by
  unfold mapPutD at hR
  split at hR
  · rename_i kt et id hma
    split at hR
    · rename_i es clock hid
      obtain ⟨ho, hkk, hR⟩ := hR
      cases hm
      have hmu := und_maD hma
      obtain ⟨xs, hxs, he, hg⟩ := getObj_map (P := P) H hid
      have hck := isKeyD_check (P := P) (w := w) hk hkk false 9998
      rcases findKey_key (P := P) (w := w) hk hkk he ho with ⟨a1, a2, a3⟩ | ⟨j, x, e, a1, a2, a3, a4, a5, a6, a7, a8⟩
      · have hset := setObj_run (P := P) (ob := .map (xs.push { key := vk, val := vv, born := clock }) (clock + 1)) hxs (by simp)
        refine ⟨_, _, by simp only [Instr.mapUpdate, Sem.run_bind, run_underlying hmu, Result.andThen_ok, hg, hck, a3]; exact hset, ?_, hR⟩
        rw [putM_new a1]
        refine H.setMap hid ?_
        simp only [Array.toList_push]
        exact he.push rfl hk hv
      · have hset := setObj_run (P := P) (ob := .map (xs.modify j fun e => { e with key := vk, val := vv }) clock) hxs (by simp)
        have hold : (((xs[j]?).map (·.key)).getD vk) = vk := by rw [← Array.getElem?_toList, a2]; exact a6
        have hstay : (Instr.keyThatStays vk vk).run P w = .ok vk w := by simp [Instr.keyThatStays, sameBits_key hk hkk]
        refine ⟨_, _, by simp only [Instr.mapUpdate, Sem.run_bind, run_underlying hmu, Result.andThen_ok, hg, hck, a5, hold, hstay]; exact hset, ?_, hR⟩
        rw [putM_old (i := 0) (by simpa using a1) a3]
        refine H.setMap hid ?_
        rw [modify_toList xs j _ x a2]
        exact he.set a7 hk hv
    · exact hR.elim
  · exact hR.elim

theorem delM_new {key : D} : ∀ {es : List ME} {i : Nat}, posM key es i = none → delM key es = es
  | [], _, _ => rfl
  | e :: es, i, hp => by
    simp only [posM] at hp
    split at hp
    · simp at hp
    · rename_i hq
      simp [delM, hq, delM_new hp]

theorem posM_ge {key : D} : ∀ {es : List ME} {a b : Nat}, posM key es a = some b → a ≤ b
  | [], a, b, h => by simp [posM] at h
  | x :: xs, a, b, h => by
    simp only [posM] at h
    split at h
    · simp at h; omega
    · have := posM_ge h; omega

theorem delM_old {key : D} : ∀ {es : List ME} {i j : Nat}, posM key es i = some (i + j) → delM key es = es.eraseIdx j
  | [], _, _, hp => by simp [posM] at hp
  | f :: es, i, j, hp => by
    simp only [posM] at hp
    split at hp
    · rename_i hq
      have : j = 0 := by simp at hp; omega
      subst this
      simp [delM, hq]
    · rename_i hq
      cases j with
      | zero => have := posM_ge hp; omega
      | succ j =>
        have := delM_old (key := key) (es := es) (i := i + 1) (j := j) (by rw [hp]; congr 1; omega)
        simp [delM, hq, this]

theorem mapDelD_sound (H : HR K h w) {t ty kt0 : TypeId} {m key : D} {vm vk : Value} {R : Heap → Prop} (hm : VR K vm m) (hk : VR K vk key) (hR : mapDelD P h t m key R) :
    ∃ w' h', (Builtin.delete_ #[t, kt0] ty #[vm, vk]).run P w = .ok (.tuple #[]) w' ∧ HR K h' w' ∧ R h' := by
  unfold mapDelD at hR
  split at hR
  · rename_i kt et id hma
    split at hR
    · rename_i es clock hid
      obtain ⟨ho, hkk, hR⟩ := hR
      cases hm
      have hmu := und_maD hma
      obtain ⟨xs, hxs, he, hg⟩ := getObj_map (P := P) H hid
      have hck := isKeyD_check (P := P) (w := w) hk hkk xs.isEmpty 9998
      rcases findKey_key (P := P) (w := w) hk hkk he ho with ⟨a1, a2, a3⟩ | ⟨j, x, e, a1, a2, a3, a4, a5, a6, a7, a8⟩
      · have hset := setObj_run (P := P) (ob := .map xs clock) hxs (by simp)
        refine ⟨{ w with heap := w.heap.setIfInBounds (K.io id) (.map xs clock) }, _, ?_, ?_, hR⟩
        · simp [Builtin.delete_, run_underlying hmu, hg, hck, a3, hset]
        · rw [delM_new a1]
          exact H.setMap hid he
      · have hset := setObj_run (P := P) (ob := .map (xs.eraseIdxIfInBounds j) clock) hxs (by simp)
        refine ⟨{ w with heap := w.heap.setIfInBounds (K.io id) (.map (xs.eraseIdxIfInBounds j) clock) }, _, ?_, ?_, hR⟩
        · simp [Builtin.delete_, run_underlying hmu, hg, hck, a5, hset]
        · rw [delM_old (i := 0) (by simpa using a1)]
          refine H.setMap hid ?_
          have : (xs.eraseIdxIfInBounds j).toList = xs.toList.eraseIdx j := by simp
          rw [this]
          exact he.erase
    · exact hR.elim
  · exact hR.elim

/-- An entry for m[k] op= v: its value, and its stamp. -/
def mapEntD (P : Program) (h : Heap) (t : TypeId) (m key : D) (R : D → Heap → Prop) : Prop :=
  match maD P t, m with
  | some (kt, et), .mp id => match h id, zrD P et with
    | some (.map es clock), some z => keysOk P kt es = true ∧ isKeyD P kt key = true ∧
        match findM key es with
        | some e => R (.tup [e.val, .int .i64 e.born]) (h.upd id (some (.map (putM key e.val clock es).1 clock)))
        | none => R (.tup [z, .int .i64 clock]) (h.upd id (some (.map (es ++ [⟨clock, key, z⟩]) (clock + 1))))
    | _, _ => False
  | _, _ => False

theorem mapEntD_sound (H : HR K h w) {t : TypeId} {m key : D} {vm vk : Value} {R : D → Heap → Prop} (hm : VR K vm m) (hk : VR K vk key) (hR : mapEntD P h t m key R) :
    Does P K h w (Instr.mapEntry t vm vk) R := by
  unfold mapEntD at hR
  split at hR
  · rename_i kt et id hma
    split at hR
    · rename_i es clock z hid hz
      obtain ⟨ho, hkk, hR⟩ := hR
      cases hm
      have hmu := und_maD hma
      obtain ⟨zv, hzr, hza⟩ := zrD_spec hz
      obtain ⟨xs, hxs, he, hg⟩ := getObj_map (P := P) H hid
      have hck := isKeyD_check (P := P) (w := w) hk hkk false 9998
      rcases findKey_key (P := P) (w := w) hk hkk he ho with ⟨a1, a2, a3⟩ | ⟨j, x, e, a1, a2, a3, a4, a5, a6, a7, a8⟩
      · rw [a2] at hR
        have hset := setObj_run (P := P) (ob := .map (xs.push { key := vk, val := zv, born := clock }) (clock + 1)) hxs (by simp)
        refine ⟨.tuple #[zv, goInt clock], { w with heap := w.heap.setIfInBounds (K.io id) (.map (xs.push { key := vk, val := zv, born := clock }) (clock + 1)) }, _, K, _, ?_, Ext.refl K, ?_, ?_, hR⟩
        · simp [Instr.mapEntry, run_underlying hmu, hg, hck, a3, hzr, hset]
        · refine H.setMap hid ?_
          simp only [Array.toList_push]
          exact he.push rfl hk (hza K)
        · refine .tup _ _ rfl (fun i => ?_)
          match i with
          | 0 => exact hza K
          | 1 => exact .int _ _
          | i + 2 => exact .any _
      · rw [a4] at hR
        have hset := setObj_run (P := P) (ob := .map (xs.modify j fun e => { e with key := vk }) clock) hxs (by simp)
        have hxj : xs[j]? = some x := by rw [← Array.getElem?_toList]; exact a2
        have hold : (((xs[j]?).map (·.key)).getD vk) = vk := by rw [hxj]; exact a6
        have hstay : (Instr.keyThatStays vk vk).run P w = .ok vk w := by simp [Instr.keyThatStays, sameBits_key hk hkk]
        refine ⟨.tuple #[x.val, goInt x.born], { w with heap := w.heap.setIfInBounds (K.io id) (.map (xs.modify j fun e => { e with key := vk }) clock) }, _, K, _, ?_, Ext.refl K, ?_, ?_, hR⟩
        · simp only [Instr.mapEntry, Sem.run_bind, run_underlying hmu, Result.andThen_ok, hg, hck, a5, hold, hstay, hset]
          simp [hxj]
        · rw [putM_old (i := 0) (by simpa using a1) a3]
          refine H.setMap hid ?_
          rw [modify_toList xs j _ x a2]
          exact he.set a7 hk a8
        · refine .tup _ _ rfl (fun i => ?_)
          match i with
          | 0 => exact a8
          | 1 => show VR K (.int .i64 x.born) (.int .i64 e.born); rw [a7]; exact .int _ _
          | i + 2 => exact .any _
    · exact hR.elim
  · exact hR.elim

def setBorn (st : Int) (val : D) : List ME → Option (List ME)
  | [] => none
  | e :: es => if (e.born : Int) = st then some (⟨e.born, e.key, val⟩ :: es) else (setBorn st val es).map (e :: ·)

def entPutD (h : Heap) (m st val : D) (R : Heap → Prop) : Prop :=
  match m, st with
  | .mp id, .int _ n => match h id with
    | some (.map es clock) => match setBorn n val es with
      | some es' => R (h.upd id (some (.map es' clock)))
      | none => False
    | _ => False
  | _, _ => False

theorem setBorn_find {val : D} {n : Int} {vv : Value} (hv : VR K vv val) : ∀ {xs : List MapEntry} {es es' : List ME}, EntriesOk K xs es → setBorn n val es = some es' →
    ∃ i x, xs.findIdx? (fun e => (e.born : Int) == n) = some i ∧ xs[i]? = some x ∧ EntriesOk K (xs.set i { x with val := vv }) es'
  | [], [], _, _, hs => by simp [setBorn] at hs
  | x :: xs, e :: es, es', ⟨a, b, c, d⟩, hs => by
    simp only [setBorn] at hs
    split at hs
    · rename_i hq
      injection hs with hs; subst hs
      exact ⟨0, x, by simp [List.findIdx?_cons, a, hq], rfl, a, b, hv, d⟩
    · rename_i hq
      cases hr : setBorn n val es with
      | none => simp [hr] at hs
      | some es2 =>
        simp [hr] at hs; subst hs
        obtain ⟨i, y, h1, h2, h3⟩ := setBorn_find hv d hr
        exact ⟨i + 1, y, by simp [List.findIdx?_cons, a, hq, h1], by simpa using h2, a, b, c, h3⟩
  | [], _ :: _, _, h, _ => h.elim
  | _ :: _, [], _, h, _ => h.elim

theorem entPutD_sound (H : HR K h w) {t : TypeId} {m st val : D} {vm vs vv : Value} {R : Heap → Prop} (hm : VR K vm m) (hs : VR K vs st) (hv : VR K vv val) (hR : entPutD h m st val R) :
    ∃ w' h', (Instr.entryStore t vm vs vv).run P w = .ok () w' ∧ HR K h' w' ∧ R h' := by
  unfold entPutD at hR
  split at hR
  · rename_i id k n
    split at hR
    · rename_i es clock hid
      split at hR
      · rename_i es' hsb
        cases hm; cases hs
        obtain ⟨xs, hxs, he, hg⟩ := getObj_map (P := P) H hid
        obtain ⟨i, x, h1, h2, h3⟩ := setBorn_find hv he hsb
        have hfi : xs.findIdx? (fun e => (e.born : Int) == n) = some i := by
          have hl := List.findIdx?_toArray (p := fun e : MapEntry => (e.born : Int) == n) (l := xs.toList)
          rw [Array.toArray_toList] at hl
          rw [hl]; exact h1
        have hset := setObj_run (P := P) (ob := .map (xs.modify i fun e => { e with val := vv }) clock) hxs (by simp)
        refine ⟨_, _, by simp only [Instr.entryStore, Sem.run_bind, hg, Result.andThen_ok, asInt, asIntOf, Sem.run_pure, hfi]; exact hset, ?_, hR⟩
        refine H.setMap hid ?_
        rw [modify_toList xs i _ x h2]
        exact h3
      · exact hR.elim
    · exact hR.elim
  · exact hR.elim

/-- A new map; ranging begins. -/
def newMapD (h : Heap) (R : D → Heap → Prop) : Prop := ∀ i, h i = none → i ≠ 0 → R (.mp i) (h.upd i (some (.map [] 0)))

theorem newMapD_sound (H : HR K h w) {t : TypeId} {R : D → Heap → Prop} (hR : newMapD h R) : Does P K h w (Instr.makeMap t none) R := by
  have hob := H.newObj (.map #[] 0) (.map [] 0) (by simp) (by simp) (fun K' E hio => ⟨#[], by rw [hio]; exact heap_new w _, trivial⟩)
  refine ⟨.map (some w.heap.size), w.alloc (.map #[] 0), _, _, _, by simp [Instr.makeMap], Kn.withObj_ext K _ _, hob, ?_, hR K.nx H.fresh (by have := H.nz; omega)⟩
  have := VR.mp (K := K.withObj w.heap.size 0) K.nx (by simp [Kn.withObj])
  have hio : (K.withObj w.heap.size 0).io K.nx = w.heap.size := by simp [Kn.withObj]
  rw [hio] at this
  exact this

def rangeD (P : Program) (h : Heap) (t : TypeId) (x : D) (R : D → Heap → Prop) : Prop :=
  match x with
  | .str s => stD P t = true ∧ ∀ i, h i = none → i ≠ 0 → R (.ptr i 0) (h.upd i (some (.iter s 0)))
  | .mp m => (maD P t).isSome = true ∧ match h m with
    | some (.map _ clock) => ∀ i, h i = none → i ≠ 0 → R (.ptr i 0) (h.upd i (some (.miter m clock [] clock)))
    | _ => False
  | _ => False

theorem rangeD_sound (H : HR K h w) {t : TypeId} {x : D} {v : Value} {R : D → Heap → Prop} (hv : VR K v x) (hR : rangeD P h t x R) : Does P K h w (Instr.range t v) R := by
  unfold rangeD at hR
  have hio : (K.withObj w.heap.size 0).io K.nx = w.heap.size := by simp [Kn.withObj]
  have hptr := VR.ptr (K := K.withObj w.heap.size 0) K.nx 0 (by simp [Kn.withObj])
  rw [hio] at hptr
  split at hR
  · rename_i s
    obtain ⟨hs, hR⟩ := hR
    cases hv
    have hob := H.newObj (.stringIter ⟨s.toArray⟩ 0) (.iter s 0) (by simp) (by simp) (fun K' E hio => by show _ = _; rw [hio]; exact heap_new w _)
    exact ⟨.pointer (some ⟨w.heap.size, 0, none⟩), w.alloc (.stringIter ⟨s.toArray⟩ 0), _, _, _, by simp [Instr.range, run_underlying (und_stD hs)], Kn.withObj_ext K _ _, hob, hptr, hR K.nx H.fresh (by have := H.nz; omega)⟩
  · rename_i m
    obtain ⟨hs, hR⟩ := hR
    split at hR
    · rename_i es clock hm
      cases hv
      obtain ⟨⟨kt, et⟩, hma⟩ := Option.isSome_iff_exists.1 hs
      obtain ⟨xs, hxs, he, hg⟩ := getObj_map (P := P) H hm
      have hmlt := H.lt m _ hm
      have hob := H.newObj (.mapIter (some (K.io m)) clock #[] clock) (.miter m clock [] clock) (by simp) (by simp) (fun K' E hio => ⟨Nat.lt_of_lt_of_le hmlt E.nx, by rw [hio, E.io m hmlt]; exact heap_new w _⟩)
      exact ⟨.pointer (some ⟨w.heap.size, 0, none⟩), w.alloc (.mapIter (some (K.io m)) clock #[] clock), _, _, _, by simp [Instr.range, run_underlying (und_maD hma), hg], Kn.withObj_ext K _ _, hob, hptr, hR K.nx H.fresh (by have := H.nz; omega)⟩
    · exact hR.elim
  · exact hR.elim

def nextD (h : Heap) (it : D) (isString : Bool) (R : D → Heap → Prop) : Prop :=
  match it with
  | .ptr i 0 => match h i, isString with
    | some (.iter s pos), true =>
      if pos < s.length then R (.tup [.bool true, .int .i64 pos, .int .i32 (Utf8.decode ⟨s.toArray⟩ pos).1]) (h.upd i (some (.iter s (pos + (Utf8.decode ⟨s.toArray⟩ pos).2))))
      else R (.tup [.bool false]) h
    | some (.miter m since seen stepped), false => match h m with
      | some (.map es clock) => (seen = [] ∨ es = [] ∨ ∃ e ∈ es, e.born < stepped) ∧ ((∀ e ∈ es, e.born < since → e.born ∈ seen) → R (.tup [.bool false]) h) ∧
          ∀ e ∈ es, e.born ∉ seen → R (.tup [.bool true, e.key, e.val]) (h.upd i (some (.miter m since (seen ++ [e.born]) clock)))
      | _ => False
    | _, _ => False
  | _ => False

/-- The entry at which an iterator stands. -/
def entryD (h : Heap) (it : D) : Option D :=
  match it with
  | .ptr i 0 => match h i with
    | some (.miter m _ seen stepped) => match h m, seen.getLast? with
      | some (.map es clock), some b => if clock = stepped then (es.find? fun e => e.born == b).map fun e => .tup [e.key, e.val] else none
      | _, _ => none
    | _ => none
  | _ => none

theorem EntriesOk.find {b : Nat} : ∀ {xs : List MapEntry} {es : List ME} {e : ME}, EntriesOk K xs es → (es.find? fun e => e.born == b) = some e → ∃ x, (xs.find? fun x => x.born == b) = some x ∧ VR K x.key e.key ∧ VR K x.val e.val
  | [], [], _, _, h => by simp at h
  | y :: xs, f :: es, e, ⟨a1, a2, a3, a4⟩, h => by
    simp only [List.find?_cons] at h ⊢
    rw [a1]
    cases hb : f.born == b with
    | true => rw [hb] at h; injection h with h; subst h; exact ⟨y, rfl, a2, a3⟩
    | false => rw [hb] at h; exact a4.find h
  | [], _ :: _, _, h, _ => h.elim
  | _ :: _, [], _, h, _ => h.elim

theorem entryD_sound (H : HR K h w) {it d : D} {v : Value} (hv : VR K v it) (hd : entryD h it = some d) : Says P K w (Instr.entry v) d := by
  unfold entryD at hd
  split at hd
  · rename_i i
    split at hd
    · rename_i m since seen stepped hi
      split at hd
      · rename_i es clock b hm hl
        split at hd
        · rename_i hc
          subst hc
          cases hf : es.find? fun e => e.born == b with
          | none => rw [hf] at hd; simp at hd
          | some e =>
            rw [hf] at hd
            simp at hd; subst hd
            cases hv
            obtain ⟨hmlt, hx⟩ := H.ok i _ hi
            obtain ⟨xs, hxs, he, hgm⟩ := getObj_map (P := P) H hm
            obtain ⟨x, hfx, hk, hva⟩ := he.find hf
            have hg : (getObj (K.io i)).run P w = .ok (.mapIter (some (K.io m)) since seen.toArray clock) w := by simp [getObj, Sem.run, hx]
            have hbk : seen.toArray.back? = some b := by simpa using hl
            have hfa : xs.find? (fun x => x.born == b) = some x := by rw [← Array.find?_toList]; exact hfx
            refine ⟨.tuple #[x.key, x.val], by simp [Instr.entry, hg, hbk, hgm, hfa], .tup _ _ rfl fun j => ?_⟩
            match j with
            | 0 => exact hk
            | 1 => exact hva
            | j + 2 => exact .any _
        · simp at hd
      · simp at hd
    · simp at hd
  · simp at hd

theorem EntriesOk.born : ∀ {xs : List MapEntry} {es : List ME}, EntriesOk K xs es → ∀ x ∈ xs, ∃ e ∈ es, x.born = e.born ∧ VR K x.key e.key ∧ VR K x.val e.val
  | [], [], _, x, hx => by simp at hx
  | y :: xs, e :: es, ⟨a, b, c, d⟩, x, hx => by
    rcases List.mem_cons.1 hx with h | h
    · subst h; exact ⟨e, by simp, a, b, c⟩
    · obtain ⟨f, hf, g⟩ := d.born x h
      exact ⟨f, by simp [hf], g⟩
  | [], _ :: _, h, _, _ => h.elim
  | _ :: _, [], h, _, _ => h.elim
theorem EntriesOk.back : ∀ {xs : List MapEntry} {es : List ME}, EntriesOk K xs es → ∀ e ∈ es, ∃ x ∈ xs, x.born = e.born
  | [], [], _, x, hx => by simp at hx
  | y :: xs, e :: es, ⟨a, b, c, d⟩, x, hx => by
    rcases List.mem_cons.1 hx with h | h
    · subst h; exact ⟨y, by simp, a⟩
    · obtain ⟨f, hf, g⟩ := d.back x h
      exact ⟨f, by simp [hf], g⟩
  | [], _ :: _, h, _, _ => h.elim
  | _ :: _, [], h, _, _ => h.elim

theorem nextD_sound_map (H : HR K h w) {i m since stepped clock : Nat} {seen : List Nat} {es : List ME} {t : TypeId} {R : D → Heap → Prop} (hi : h i = some (.miter m since seen stepped)) (hm : h m = some (.map es clock))
    (h1 : seen = [] ∨ es = [] ∨ ∃ e ∈ es, e.born < stepped) (h2 : (∀ e ∈ es, e.born < since → e.born ∈ seen) → R (.tup [.bool false]) h)
    (h3 : ∀ e ∈ es, e.born ∉ seen → R (.tup [.bool true, e.key, e.val]) (h.upd i (some (.miter m since (seen ++ [e.born]) clock)))) :
    Does P K h w (Instr.next (.pointer (some ⟨K.io i, 0, none⟩)) false t) R := by
  obtain ⟨hmlt, hx⟩ := H.ok i _ hi
  obtain ⟨xs, hxs, he, hgm⟩ := getObj_map (P := P) H hm
  have hg : (getObj (K.io i)).run P w = .ok (.mapIter (some (K.io m)) since seen.toArray stepped) w := by simp [getObj, Sem.run, hx]
  have hun : (!seen.toArray.isEmpty && !xs.isEmpty && xs.all (fun e => decide (e.born ≥ stepped))) = false := by
    rcases h1 with h | h | ⟨e, hem, hlt⟩
    · subst h; simp
    · subst h
      have : xs = #[] := by
        have := he.born
        cases hl : xs.toList with
        | nil => exact Array.toList_eq_nil_iff.1 hl
        | cons x l => obtain ⟨e, hem, _⟩ := this x (by rw [hl]; simp); simp at hem
      subst this; simp
    · obtain ⟨x, hxm, hxb⟩ := he.back e hem
      have : xs.all (fun e => decide (e.born ≥ stepped)) = false := by
        rw [Array.all_eq_false']
        exact ⟨x, by simpa using hxm, by simp; omega⟩
      rw [this]; simp
  let left := xs.filter fun e => !seen.toArray.contains e.born
  let old := left.filter fun e => decide (e.born < since)
  let new := left.filter fun e => decide (e.born ≥ since)
  let cand : Array (Option MapEntry) := (if old.isEmpty then #[none] else #[]) ++ (old ++ new).map some
  have hpos : 0 < cand.size := by
    by_cases ho : old.isEmpty = true
    · simp [cand, ho]; omega
    · have : old.size ≠ 0 := by
        intro h0; apply ho; simp [Array.isEmpty, h0]
      simp [cand]; omega
  obtain ⟨n, w', hch, hnlt, H'⟩ : ∃ n w', (choose (.mapNext cand.size)).run P w = .ok n w' ∧ n < cand.size ∧ (w' = w ∨ w' = w.drew) := by
    rw [run_choose_drew]
    by_cases hf : (Question.mapNext cand.size).forced = true
    · rw [if_pos hf]; exact ⟨0, w, rfl, hpos, .inl rfl⟩
    · rw [if_neg hf]; exact ⟨_, w.drew, rfl, Nat.mod_lt _ hpos, .inr rfl⟩
  have HH : HR K h w' := by rcases H' with rfl | rfl; exact H; exact H.drew
  have hx' : w'.heap[K.io i]? = some (.mapIter (some (K.io m)) since seen.toArray stepped) := by rcases H' with rfl | rfl; exact hx; exact hx
  have hget : cand[n]? = some cand[n] := Array.getElem?_eq_getElem hnlt
  have hmem : cand[n] ∈ cand := Array.getElem_mem hnlt
  cases hc : cand[n] with
  | none =>
    rw [hc] at hget hmem
    have hold : old.isEmpty = true := by
      cases hoe : old.isEmpty with
      | true => rfl
      | false => simp [cand, hoe] at hmem
    refine ⟨.tuple #[.bool false], w', _, K, h, ?_, Ext.refl K, HH, ?_, h2 fun e hem hlt => ?_⟩
    · simp only [Instr.next, Sem.run_bind, hg, Result.andThen_ok, hgm]
      rw [if_neg (by rw [hun]; simp)]
      simp only [Sem.run_bind, Result.andThen_ok, Sem.run_pure]
      show Result.andThen ((choose (.mapNext cand.size)).run P w) _ = _
      rw [hch]
      simp only [Result.andThen_ok]
      show Sem.run P (match cand[n]? with | some (some e) => _ | some none => _ | none => _) w' = _
      rw [hget]
      simp
    · refine .tup _ _ rfl (fun j => ?_)
      match j with
      | 0 => exact .bool _
      | j + 1 => exact .any _
    · obtain ⟨x, hxm, hxb⟩ := he.back e hem
      by_cases hs : e.born ∈ seen
      · exact hs
      · exfalso
        have : x ∈ old := by
          simp only [old, left, Array.mem_filter]
          refine ⟨⟨by simpa using hxm, ?_⟩, by simp; omega⟩
          simp; rw [hxb]; exact hs
        have h0 : old = #[] := by simpa using hold
        rw [h0] at this; simp at this
  | some x =>
    rw [hc] at hget hmem
    have hxm : x ∈ xs ∧ x.born ∉ seen := by
      have : x ∈ old ++ new := by
        by_cases hoe : old.isEmpty = true
        · simp [cand, hoe] at hmem ⊢; exact hmem
        · simp [cand, hoe] at hmem ⊢; exact hmem
      simp only [old, new, left, Array.mem_append, Array.mem_filter] at this
      rcases this with h | h
      · exact ⟨h.1.1, by simpa using h.1.2⟩
      · exact ⟨h.1.1, by simpa using h.1.2⟩
    obtain ⟨e, hem, hb, hk, hv⟩ := he.born x (by simpa using hxm.1)
    have hset := setObj_run (P := P) (ob := .mapIter (some (K.io m)) since (seen.toArray.push x.born) clock) hx' (by simp)
    have hH := HH.setObj hi (by simp) (by simp) (y := .miter m since (seen ++ [e.born]) clock) (by simp) (.mapIter (some (K.io m)) since (seen.toArray.push x.born) clock) (fun K' hK => by subst hK; exact ⟨hmlt, by rw [← hb]; simpa using set_get (own_lt HH hi (o := 0) rfl)⟩)
    refine ⟨.tuple #[.bool true, x.key, x.val], _, _, K, _, ?_, Ext.refl K, hH, ?_, h3 e hem (by rw [← hb]; exact hxm.2)⟩
    · simp only [Instr.next, Sem.run_bind, hg, Result.andThen_ok, hgm]
      rw [if_neg (by rw [hun]; simp)]
      simp only [Sem.run_bind, Result.andThen_ok, Sem.run_pure]
      show Result.andThen ((choose (.mapNext cand.size)).run P w) _ = _
      rw [hch]
      simp only [Result.andThen_ok]
      show Sem.run P (match cand[n]? with | some (some e) => _ | some none => _ | none => _) w' = _
      rw [hget]
      simp only [Sem.run_bind, hset, Result.andThen_ok, Sem.run_pure]
    · refine .tup _ _ rfl (fun j => ?_)
      match j with
      | 0 => exact .bool _
      | 1 => exact hk
      | 2 => exact hv
      | j + 3 => exact .any _

theorem nextD_sound_str (H : HR K h w) {i pos : Nat} {s : List UInt8} {t : TypeId} {R : D → Heap → Prop} (hi : h i = some (.iter s pos))
    (hR : if pos < s.length then R (.tup [.bool true, .int .i64 pos, .int .i32 (Utf8.decode ⟨s.toArray⟩ pos).1]) (h.upd i (some (.iter s (pos + (Utf8.decode ⟨s.toArray⟩ pos).2)))) else R (.tup [.bool false]) h) :
    Does P K h w (Instr.next (.pointer (some ⟨K.io i, 0, none⟩)) true t) R := by
  have hx : w.heap[K.io i]? = some (.stringIter ⟨s.toArray⟩ pos) := H.ok i _ hi
  have hg : (getObj (K.io i)).run P w = .ok (.stringIter ⟨s.toArray⟩ pos) w := by simp [getObj, Sem.run, hx]
  have hsz : (⟨s.toArray⟩ : ByteArray).size = s.length := by simp [ByteArray.size]
  by_cases hp : pos < s.length
  · rw [if_pos hp] at hR
    have hset := setObj_run (P := P) (ob := .stringIter ⟨s.toArray⟩ (pos + (Utf8.decode ⟨s.toArray⟩ pos).2)) hx (by simp)
    have hH := H.setObj hi (by simp) (by simp) (y := .iter s (pos + (Utf8.decode ⟨s.toArray⟩ pos).2)) (by simp) (.stringIter ⟨s.toArray⟩ (pos + (Utf8.decode ⟨s.toArray⟩ pos).2)) (fun K' hK => by subst hK; exact set_get (own_lt H hi (o := 0) rfl))
    refine ⟨.tuple #[.bool true, goInt pos, .int .i32 (Utf8.decode ⟨s.toArray⟩ pos).1], _, _, K, _, ?_, Ext.refl K, hH, ?_, hR⟩
    · simp [Instr.next, hg, hsz, hp, hset]
    · refine .tup _ _ rfl (fun j => ?_)
      match j with
      | 0 => exact .bool _
      | 1 => exact .int _ _
      | 2 => exact .int _ _
      | j + 3 => exact .any _
  · rw [if_neg hp] at hR
    refine ⟨.tuple #[.bool false], w, _, K, h, by simp [Instr.next, hg, hsz, hp], Ext.refl K, H, ?_, hR⟩
    refine .tup _ _ rfl (fun j => ?_)
    match j with
    | 0 => exact .bool _
    | j + 1 => exact .any _

theorem nextD_sound (H : HR K h w) {it : D} {v : Value} {b : Bool} {t : TypeId} {R : D → Heap → Prop} (hv : VR K v it) (hR : nextD h it b R) : Does P K h w (Instr.next v b t) R := by
  unfold nextD at hR
  split at hR
  · rename_i i
    split at hR
    · rename_i s pos hi
      cases hv
      exact nextD_sound_str H hi hR
    · rename_i m since seen stepped hi
      split at hR
      · rename_i es clock hm
        cases hv
        exact nextD_sound_map H hi hm hR.1 hR.2.1 hR.2.2
      · exact hR.elim
    · exact hR.elim
  · exact hR.elim

end
end Go.Proofs.YtocfjohangcajaaDoor
