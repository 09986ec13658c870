/- The scanner's readers: they answer. No condition. -/
import Derived.Test.YtfokkdofcekdbaaDoorSb
import Derived.Laws.Cover4
set_option linter.unusedSimpArgs false
set_option linter.unusedVariables false
set_option maxRecDepth 20000
namespace Go.Proofs.YtfokkdofcekdbaaDoor
open Go.Lib (decodeL decodeN)

/-! ## Words within a text -/
theorem index_occ : ∀ {s sub : List UInt8} {n : Nat}, Lib.index s sub = (n : Int) → sub ≠ [] → sub.isPrefixOf (s.drop n) = true ∧ n + sub.length ≤ s.length
  | [], sub, n, h, hne => by
    simp only [Lib.index] at h
    split at h
    · rename_i he
      exact absurd (by simpa using he) hne
    · omega
  | b :: l, sub, n, h, hne => by
    simp only [Lib.index] at h
    split at h
    · rename_i hp
      have : n = 0 := by omega
      subst this
      have h2 := hp
      rw [isPre_take, Bool.and_eq_true, decide_eq_true_eq] at h2
      exact ⟨hp, by omega⟩
    · split at h
      · omega
      · cases n with
        | zero =>
          have := Lib.index_ge l sub
          rename_i h1
          have h3 : Lib.index l sub ≠ -1 := by simpa using h1
          omega
        | succ n =>
          have := index_occ (s := l) (sub := sub) (n := n) (by omega) hne
          exact ⟨this.1, by rw [List.length_cons]; omega⟩
theorem ixB_get : ∀ {l : List UInt8} {c : UInt8} {n : Nat}, Lib.indexByte l c = (n : Int) → l[n]? = some c
  | [], c, n, h => by simp [Lib.indexByte] at h
  | b :: l, c, n, h => by
    simp only [Lib.indexByte] at h
    split at h
    · rename_i hb
      have : n = 0 := by omega
      subst this
      have : b = c := by simpa using hb
      subst this; rfl
    · split at h
      · omega
      · rename_i h1
        have := Lib.indexByte_ge l c
        have h3 : Lib.indexByte l c ≠ -1 := by simpa using h1
        cases n with
        | zero => omega
        | succ n =>
          have := ixB_get (l := l) (c := c) (n := n) (by omega)
          simpa using this

/-! ## refer -/
theorem digit_some (c : Int) : ∃ r, F_refer_digit c = some r := by
  unfold F_refer_digit
  cases (decide ((48 : Int) ≤ c)) && (decide (c ≤ (57 : Int))) with
  | true => exact ⟨_, rfl⟩
  | false =>
    cases (decide ((97 : Int) ≤ c)) && (decide (c ≤ (102 : Int))) with
    | true => exact ⟨_, rfl⟩
    | false => cases (decide ((65 : Int) ≤ c)) && (decide (c ≤ (70 : Int))) <;> exact ⟨_, rfl⟩
theorem meant_l0 (a : List UInt8) (k : Int) (ha : a.length ≤ 1073741824) : ∃ o, iter (F_refer_meant_l0 a k) FUEL ((0 : Int), (0 : Int)) = some o ∧ True := by
  refine iter_spec (b := F_refer_meant_l0 a k) (fun i x => ∃ n : Int, x = (n, (i : Int))) _ a.length (x0 := ((0 : Int), (0 : Int))) ⟨0, rfl⟩ ?_ ?_ (n := FUEL) (by unfold FUEL; omega)
  · rintro i x rec hi ⟨n, rfl⟩
    obtain ⟨r, hr⟩ := digit_some (a[i].toNat : Int)
    unfold F_refer_meant_l0
    dsimp only
    rw [decide_eq_true (by omega), cond_true, idx_some hi, Option.bind_some, hr, Option.bind_some]
    cases decide (k ≤ r) with
    | true => exact .inr ⟨_, rfl, trivial⟩
    | false =>
      rw [cond_false, w64 (x := (i : Int) + 1) (by omega) (by omega)]
      exact .inl ⟨_, rfl, _, rfl⟩
  · rintro x rec ⟨n, rfl⟩
    unfold F_refer_meant_l0
    dsimp only
    rw [decide_eq_false (by omega), cond_false]
    exact ⟨_, rfl, trivial⟩
theorem meant_some (s : List UInt8) (hs : s.length ≤ 1073741824) : ∃ r, F_refer_meant s = some r := by
  unfold F_refer_meant
  cases s == ([108, 116] : List UInt8) with
  | true => exact ⟨_, rfl⟩
  | false =>
  cases s == ([103, 116] : List UInt8) with
  | true => exact ⟨_, rfl⟩
  | false =>
  cases s == ([97, 109, 112] : List UInt8) with
  | true => exact ⟨_, rfl⟩
  | false =>
  cases s == ([97, 112, 111, 115] : List UInt8) with
  | true => exact ⟨_, rfl⟩
  | false =>
  cases s == ([113, 117, 111, 116] : List UInt8) with
  | true => exact ⟨_, rfl⟩
  | false =>
    simp only [cond_false]
    rw [cutPrefix_eq, Option.bind_some]
    generalize hx : (if ([35] : List UInt8).isPrefixOf s = true then (s.drop ([35] : List UInt8).length, true) else (s, false)) = x
    have hxl : x.1.length ≤ 1073741824 := by
      rw [← hx]; split
      · dsimp only; rw [List.length_drop]; omega
      · exact hs
    simp only [letJ]
    rw [cutPrefix_eq, Option.bind_some]
    generalize hy : (if ([120] : List UInt8).isPrefixOf x.1 = true then (x.1.drop ([120] : List UInt8).length, true) else (x.1, false)) = y
    have hyl : y.1.length ≤ 1073741824 := by
      rw [← hy]; split
      · dsimp only; rw [List.length_drop]; omega
      · exact hxl
    have core : ∀ (a : List UInt8) (k : Int), a.length ≤ 1073741824 → ∃ r : Int × Int, cond ((!x.2) || (a == ([] : List UInt8))) (some ((0 : Int), (22 : Int))) ((iter (F_refer_meant_l0 a k) FUEL ((0 : Int), (0 : Int))).bind fun o => match o with
        | .inl o1 => (F_char_IsChar (IntKind.wrap .i32 o1)).bind fun x34 => cond (!x34) (some ((0 : Int), (21 : Int))) (some ((IntKind.wrap .i32 o1), (0 : Int)))
        | .inr o1 => some o1) = some r := by
      intro a k ha
      cases (!x.2) || (a == ([] : List UInt8)) with
      | true => exact ⟨_, rfl⟩
      | false =>
        obtain ⟨o, e, _⟩ := meant_l0 a k ha
        rw [cond_false, e, Option.bind_some]
        cases o with
        | inr q => exact ⟨_, rfl⟩
        | inl q =>
          dsimp only
          rw [F_isChar, Option.bind_some]
          cases charP (IntKind.wrap .i32 q) <;> exact ⟨_, rfl⟩
    cases y.2 with
    | true => exact core y.1 16 hyl
    | false => exact core x.1 10 hxl
theorem expand_sp (p : List UInt8) (i : Nat) (hi : i < p.length) (hp : p.length ≤ 1073741824) : ∃ (r n e : Int), F_refer_Expand p (i : Int) = some (r, n, e) ∧ (e = 0 → ∃ m : Nat, n = (m : Int) ∧ i < m ∧ m ≤ p.length) := by
  unfold F_refer_Expand
  simp only [letJ]
  rw [decide_eq_false (show ¬ (i : Int) < 0 by omega), decide_eq_false (show ¬ (p.length : Int) ≤ (i : Int) by omega), show (false || false) = false from rfl, cond_false, idx_some hi, Option.bind_some]
  by_cases h38 : (p[i].toNat : Int) = 38
  · rw [show ((p[i].toNat : Int) != 38) = false by simpa using h38, cond_false, slc_drop (Nat.le_of_lt hi), Option.bind_some]
    unfold L_bIndexByte
    rw [Option.bind_some]
    by_cases hn : Lib.indexByte (p.drop i) (59 : Int).toNat.toUInt8 < 0
    · rw [decide_eq_true hn, cond_true]
      exact ⟨_, _, _, rfl, fun h => by cases h⟩
    · obtain ⟨n, e1, e2⟩ := ixB_nat _ _ hn
      have hg := ixB_get e1
      have hn0 : n ≠ 0 := by
        intro h0
        subst h0
        rw [List.getElem?_drop, Nat.add_zero, List.getElem?_eq_getElem hi] at hg
        injection hg with hg
        rw [hg] at h38
        exact absurd h38 (by decide)
      rw [List.length_drop] at e2
      rw [decide_eq_false hn, cond_false, e1, w64 (x := (i : Int) + 1) (by omega) (by omega), w64 (x := (i : Int) + (n : Int)) (by omega) (by omega)]
      have hsl : slc p ((i : Int) + 1) ((i : Int) + (n : Int)) = some ((p.drop (i + 1)).take (n - 1)) := by
        unfold slc; rw [if_pos (by omega)]
        rw [show ((i : Int) + 1).toNat = i + 1 by omega, show ((i : Int) + (n : Int)).toNat - (i + 1) = n - 1 by omega]
      rw [hsl, Option.bind_some]
      obtain ⟨r, hr⟩ := meant_some ((p.drop (i + 1)).take (n - 1)) (by rw [List.length_take, List.length_drop]; omega)
      rw [hr, Option.bind_some]
      by_cases h2 : r.2 = 0
      · rw [show (r.2 != 0) = false by simpa using h2, cond_false, w64 (by omega) (by omega)]
        exact ⟨_, _, _, rfl, fun _ => ⟨i + n + 1, by omega, by omega, by omega⟩⟩
      · rw [show (r.2 != 0) = true by simpa using h2, cond_true]
        exact ⟨_, _, _, rfl, fun h => absurd h h2⟩
  · rw [show ((p[i].toNat : Int) != 38) = true by simpa using h38, cond_true]
    exact ⟨_, _, _, rfl, fun h => by cases h⟩
theorem enc_len (r : Int) : (Utf8.encode r).data.toList.length ≤ 4 := by
  have h : (Utf8.encode r).data.size ≤ 4 := encode_size_le r
  rw [Array.length_toList]; exact h
theorem read_some (p : List UInt8) (v : Bool) (hp : p.length ≤ 1073741824) : ∃ r, F_refer_read p v = some r := by
  obtain ⟨o, e, _⟩ := iter_dec (b := F_refer_read_l0 p v) (fun x => p.length - x.2.toNat) (fun x => ∃ (l : List UInt8) (i : Nat), x = (l, (i : Int)) ∧ i ≤ p.length ∧ l.length ≤ 4 * i) (fun _ => True) (by
    rintro _ ⟨l, i, rfl, hi, hl⟩
    by_cases hlt : i < p.length
    · obtain ⟨d1, d2, _⟩ := dec_bytes p i hlt
      have hnext := F_next p i hlt hp
      have J : ∀ (c : Int) (m : Nat), i < m → m ≤ p.length → ∃ y : List UInt8 × Int, (∀ rec : List UInt8 × Int → Option ((List UInt8) ⊕ ((List UInt8) × Int × Int)), ((app 1 l (Utf8.encode c).data.toList).bind fun _ => rec ((l ++ (Utf8.encode c).data.toList), (m : Int))) = rec y) ∧ (∃ (l : List UInt8) (i : Nat), y = (l, (i : Int)) ∧ i ≤ p.length ∧ l.length ≤ 4 * i) ∧ p.length - y.2.toNat < p.length - i := by
        intro c m h1 h2
        have := enc_len c
        refine ⟨(l ++ (Utf8.encode c).data.toList, (m : Int)), fun rec => ?_, ⟨_, m, rfl, h2, by rw [List.length_append]; omega⟩, by dsimp only; omega⟩
        rw [app_some (by omega) (by omega), Option.bind_some]
      have hbody : ∀ rec, F_refer_read_l0 p v rec (l, (i : Int)) = (F_char_Next p (i : Int)).bind fun x63 => cond (x63.2.2 != (0 : Int)) (some (.inr (([] : List UInt8), (i : Int), x63.2.2)))
          (cond (x63.1 == (60 : Int)) (some (.inr (([] : List UInt8), (i : Int), (23 : Int)))) (cond ((!v) && ([93, 93, 62] : List UInt8).isPrefixOf (p.drop i)) (some (.inr (([] : List UInt8), (i : Int), (23 : Int))))
            (cond (x63.1 == (38 : Int)) ((F_refer_Expand p (i : Int)).bind fun x101 => cond (x101.2.2 != (0 : Int)) (some (.inr (([] : List UInt8), (i : Int), x101.2.2))) ((app 1 l (Utf8.encode x101.1).data.toList).bind fun _ => rec ((l ++ (Utf8.encode x101.1).data.toList), x101.2.1)))
              (cond (v && (((x63.1 == (9 : Int)) || (x63.1 == (10 : Int))) || (x63.1 == (13 : Int)))) ((app 1 l (Utf8.encode 32).data.toList).bind fun _ => rec ((l ++ (Utf8.encode 32).data.toList), x63.2.1)) ((app 1 l (Utf8.encode x63.1).data.toList).bind fun _ => rec ((l ++ (Utf8.encode x63.1).data.toList), x63.2.1)))))) := by
        intro rec
        unfold F_refer_read_l0
        simp only [letJ]
        rw [decide_eq_true (by omega), cond_true]
        congr 1
        funext x63
        cases x63.2.2 != (0 : Int) with
        | true => rfl
        | false =>
          cases x63.1 == (60 : Int) with
          | true => rfl
          | false =>
            cases v with
            | true => rfl
            | false =>
              simp only [cond_false, Bool.not_false, cond_true, slc_drop hi, Option.bind_some, hasPrefix_eq, Bool.true_and]
      simp only [hbody, hnext, Option.bind_some]
      cases badR (decodeL (p.drop i)) with
      | true => exact .inr ⟨_, fun _ => rfl, trivial⟩
      | false =>
        simp only [Bool.false_eq_true, if_false]
        cases charP ((decodeL (p.drop i)).1 : Int) with
        | false => exact .inr ⟨_, fun _ => rfl, trivial⟩
        | true =>
          simp only [if_true]
          rw [show (((0 : Int)) != 0) = false from rfl]
          simp only [cond_false]
          cases (((decodeL (p.drop i)).1 : Int) == (60 : Int)) with
          | true => exact .inr ⟨_, fun _ => rfl, trivial⟩
          | false =>
            cases ((!v) && ([93, 93, 62] : List UInt8).isPrefixOf (p.drop i)) with
            | true => exact .inr ⟨_, fun _ => rfl, trivial⟩
            | false =>
              simp only [cond_false]
              cases (((decodeL (p.drop i)).1 : Int) == (38 : Int)) with
              | true =>
                obtain ⟨r, n, e, he, hm⟩ := expand_sp p i hlt hp
                simp only [cond_true, he, Option.bind_some]
                by_cases h0 : e = 0
                · obtain ⟨m, hnm, h1, h2⟩ := hm h0
                  rw [show (e != 0) = false by simpa using h0]
                  simp only [cond_false, hnm]
                  obtain ⟨y, y1, y2, y3⟩ := J r m h1 h2
                  exact .inl ⟨y, y1, y2, by rw [Int.toNat_natCast]; exact y3⟩
                · rw [show (e != 0) = true by simpa using h0]
                  exact .inr ⟨_, fun _ => rfl, trivial⟩
              | false =>
                simp only [cond_false]
                cases (v && (((((decodeL (p.drop i)).1 : Int) == (9 : Int)) || (((decodeL (p.drop i)).1 : Int) == (10 : Int))) || (((decodeL (p.drop i)).1 : Int) == (13 : Int)))) with
                | true =>
                  simp only [cond_true]
                  obtain ⟨y, y1, y2, y3⟩ := J 32 (i + (decodeL (p.drop i)).2) (by omega) d2
                  exact .inl ⟨y, y1, y2, by rw [Int.toNat_natCast]; exact y3⟩
                | false =>
                  simp only [cond_false]
                  obtain ⟨y, y1, y2, y3⟩ := J ((decodeL (p.drop i)).1 : Int) (i + (decodeL (p.drop i)).2) (by omega) d2
                  exact .inl ⟨y, y1, y2, by rw [Int.toNat_natCast]; exact y3⟩
    · right
      refine ⟨.inl l, fun rec => ?_, trivial⟩
      unfold F_refer_read_l0
      dsimp only
      rw [decide_eq_false (by omega), cond_false]) FUEL (([] : List UInt8), (0 : Int)) ⟨[], 0, rfl, Nat.zero_le _, by simp⟩ (by unfold FUEL; dsimp only; omega)
  unfold F_refer_read
  simp only [letJ]
  rw [e, Option.bind_some]
  cases o <;> exact ⟨_, rfl⟩

/-! ## Tokens -/
abbrev Tk := T_scan_Token
/-- The names of a tag's pairs. -/
def nmP (l : List T_scan_Pair) : List (List UInt8) := l.map (·.Name)
def namedP (t : Tk) : Bool := ((((t.Kind == (2 : Int)) || (t.Kind == (3 : Int))) || (t.Kind == (4 : Int))) || (t.Kind == (8 : Int)))
/-- What a token that is read from a place is. -/
structure TokOk (b : List UInt8) (i : Nat) (t : Tk) (j : Nat) : Prop where
  lt : i < j
  at_ : t.At = (i : Int)
  nm : namedP t = !(t.Name == [])
  nd : (nmP t.Pairs).Nodup
  txt : t.Kind = 5 → b[i]? ≠ some 60 ∧ (j = b.length ∨ b[j]? = some 60)
  oth : t.Kind ≠ 5 → b[i]? = some 60
  dec : t.Kind = 1 → i = 0
  len : t.Pairs.length ≤ b.length + 3
def TokR (b : List UInt8) (i : Nat) (x : Int × T_scan_scanner × Tk) : Prop := ∃ (e : Int) (j : Nat) (t : Tk), x = (e, ⟨b, (j : Int)⟩, t) ∧ j ≤ b.length ∧ (e = 0 → TokOk b i t j)
theorem upTo_sp (b : List UInt8) (i k : Nat) (t : Tk) (w : List UInt8) (hw : w ≠ []) (hi : i + k ≤ b.length) (hb : b.length ≤ 1073741824) (hwl : w.length ≤ 100) : ∃ (e : Int) (j : Nat) (x : List UInt8), F_scan_scanner_upTo ⟨b, (i : Int)⟩ t (k : Int) w = some (e, ⟨b, (j : Int)⟩, ⟨t.Kind, t.At, t.Name, t.Pairs, x, t.Refs⟩) ∧ j ≤ b.length ∧ (e = 0 → i + k < j) := by
  unfold F_scan_scanner_upTo
  dsimp only
  rw [w64 (x := (i : Int) + (k : Int)) (by omega) (by omega), show (i : Int) + (k : Int) = ((i + k : Nat) : Int) by omega, slc_drop hi, Option.bind_some]
  unfold L_bIndex
  rw [if_pos ⟨by rw [List.length_drop]; omega, by omega, hw⟩, Option.bind_some]
  by_cases hn : Lib.index (b.drop (i + k)) w < 0
  · rw [decide_eq_true hn, cond_true]
    exact ⟨23, i, t.Text, rfl, by omega, fun h => by cases h⟩
  · have hge := Lib.index_ge (b.drop (i + k)) w
    obtain ⟨n, e1⟩ : ∃ n : Nat, Lib.index (b.drop (i + k)) w = (n : Int) := ⟨(Lib.index (b.drop (i + k)) w).toNat, by omega⟩
    obtain ⟨_, e2⟩ := index_occ e1 hw
    have hwp : 0 < w.length := List.length_pos_iff.2 hw
    rw [List.length_drop] at e2
    rw [decide_eq_false hn, cond_false, e1, slc_take0 (by rw [List.length_drop]; omega), Option.bind_some, w64 (x := (k : Int) + (n : Int)) (by omega) (by omega), w64 (x := (k : Int) + (n : Int) + (w.length : Int)) (by omega) (by omega), w64 (by omega) (by omega)]
    exact ⟨0, i + (k + n + w.length), _, rfl, by omega, fun _ => by omega⟩
end Go.Proofs.YtfokkdofcekdbaaDoor
