/- The scanner's tokens: what each is. No condition. -/
import Derived.Test.YtfokkdofcekdbaaDoorSc
set_option linter.unusedSimpArgs false
set_option linter.unusedVariables false
set_option maxRecDepth 20000
namespace Go.Proofs.YtfokkdofcekdbaaDoor
open Go.Lib (decodeL decodeN)

theorem ne_nil_beq {l : List UInt8} (h : l ≠ []) : (l == ([] : List UInt8)) = false := by simpa using h
theorem text_sp (b : List UInt8) (i : Nat) (t : Tk) (hi : i < b.length) (hb : b.length ≤ 1073741824) (h60 : hereP b i [60] = false) (ht : t.At = (i : Int)) (hn : t.Name = []) (hp : t.Pairs = []) : ∃ x, F_scan_scanner_text ⟨b, (i : Int)⟩ t = some x ∧ TokR b i x := by
  have hne : b[i]? ≠ some 60 := by
    rw [hereP_one] at h60
    intro h; rw [h] at h60; simp at h60
  have core : ∀ (a : List UInt8) (n : Nat), a.length = n → 0 < n → i + n ≤ b.length → (i + n = b.length ∨ b[i + n]? = some 60) → ∃ x, ((F_refer_ReadText a).bind fun x10 =>
    (L_bCount a ([38] : List UInt8)).bind fun x13 =>
   some (x10.2.2, (⟨b, (IntKind.wrap .i64 ((i : Int) + (a.length : Int)))⟩ : T_scan_scanner), (⟨(5 : Int), t.At, t.Name, t.Pairs, x10.1, x13⟩ : T_scan_Token))) = some x ∧ TokR b i x := by
    intro a n ha h0 hle hend
    obtain ⟨r, hr⟩ := read_some a false (by omega)
    unfold F_refer_ReadText
    rw [hr, Option.bind_some, Option.bind_some]
    unfold L_bCount
    rw [Option.bind_some, ha, w64 (by omega) (by omega)]
    refine ⟨_, rfl, r.2.2, i + n, ⟨5, t.At, t.Name, t.Pairs, r.1, ((Lib.countByte a 38 : Nat) : Int)⟩, by simp, hle, fun _ => ⟨by omega, ht, ?_, ?_, fun _ => ⟨hne, hend⟩, fun h => absurd rfl h, fun h => (by cases h), by show t.Pairs.length ≤ _; rw [hp]; exact Nat.zero_le _⟩⟩
    · show (false : Bool) = !(t.Name == []); rw [hn]; rfl
    · show (nmP t.Pairs).Nodup; rw [hp]; exact List.nodup_nil
  unfold F_scan_scanner_text
  dsimp only
  rw [slc_drop (Nat.le_of_lt hi), Option.bind_some]
  simp only [letJ]
  unfold L_bIndexByte
  rw [Option.bind_some]
  by_cases hx : Lib.indexByte (b.drop i) (60 : Int).toNat.toUInt8 < 0
  · rw [decide_eq_false (by omega), cond_false]
    exact core (b.drop i) (b.length - i) (by simp) (by omega) (by omega) (.inl (by omega))
  · obtain ⟨n, e1, e2⟩ := ixB_nat _ _ hx
    have hg := ixB_get e1
    rw [List.getElem?_drop] at hg
    have h60' : ((60 : Int).toNat.toUInt8) = 60 := by decide
    rw [h60'] at hg
    have hn0 : n ≠ 0 := fun h => by subst h; exact hne hg
    rw [List.length_drop] at e2
    rw [decide_eq_true (by omega), cond_true, e1, slc_take0 (by rw [List.length_drop]; omega), Option.bind_some]
    exact core ((b.drop i).take n) n (by rw [List.length_take, List.length_drop]; omega) (by omega) (by omega) (.inr hg)
theorem closing_sp (b : List UInt8) (i : Nat) (t : Tk) (hi : i + 2 ≤ b.length) (hb : b.length ≤ 1073741824) (h60 : b[i]? = some 60) (ht : t.At = (i : Int)) (hp : t.Pairs = []) : ∃ x, F_scan_scanner_closing ⟨b, (i : Int)⟩ t = some x ∧ TokR b i x := by
  unfold F_scan_scanner_closing
  dsimp only
  rw [w64 (x := (i : Int) + 2) (by omega) (by omega), show (i : Int) + 2 = ((i + 2 : Nat) : Int) by omega]
  obtain ⟨v, e, j, h1, h2, h3, h4, h5⟩ := name_sp b (i + 2) hi hb
  rw [h1, Option.bind_some]
  dsimp only
  by_cases he : e = 0
  · obtain ⟨h6, h7⟩ := h5 he
    obtain ⟨s1, s2⟩ := sk_le wsP b j h3
    rw [show (e != 0) = false by simpa using he, cond_false, spaces_eq b _ j h3 hb, Option.bind_some, sign_eq b _ _ s2 hb, Option.bind_some]
    cases hh : hereP b (sk wsP b j) [62] with
    | false => exact ⟨_, rfl, 23, _, _, rfl, s2, fun h => (by cases h)⟩
    | true =>
      have := hereP_len hh s2
      refine ⟨_, rfl, 0, sk wsP b j + 1, ⟨3, t.At, v, t.Pairs, t.Text, t.Refs⟩, rfl, by simpa using this, fun _ => ⟨by omega, ht, ?_, ?_, fun h => (by cases h), fun _ => h60, fun h => (by cases h), by show t.Pairs.length ≤ _; rw [hp]; exact Nat.zero_le _⟩⟩
      · show (true : Bool) = !(v == []); rw [ne_nil_beq h6]; rfl
      · show (nmP t.Pairs).Nodup; rw [hp]; exact List.nodup_nil
  · rw [show (e != 0) = true by simpa using he, cond_true]
    exact ⟨_, rfl, e, j, _, rfl, h3, fun h => absurd h he⟩
theorem instr_sp (b : List UInt8) (i : Nat) (t : Tk) (hi : i + 2 ≤ b.length) (hb : b.length ≤ 1073741824) (h60 : b[i]? = some 60) (ht : t.At = (i : Int)) (hp : t.Pairs = []) : ∃ x, F_scan_scanner_instr ⟨b, (i : Int)⟩ t = some x ∧ TokR b i x := by
  unfold F_scan_scanner_instr
  dsimp only
  rw [w64 (x := (i : Int) + 2) (by omega) (by omega), show (i : Int) + 2 = ((i + 2 : Nat) : Int) by omega]
  obtain ⟨v, e, j, h1, h2, h3, h4, h5⟩ := name_sp b (i + 2) hi hb
  rw [h1, Option.bind_some]
  dsimp only
  by_cases he : e = 0
  · obtain ⟨h6, h7⟩ := h5 he
    rw [show (e != 0) = false by simpa using he, cond_false, F_nameC, Option.bind_some]
    cases nameP v with
    | false => exact ⟨_, rfl, 24, j, _, rfl, h3, fun h => (by cases h)⟩
    | true =>
      obtain ⟨r, hr⟩ := eqf_xml v (by omega)
      rw [Bool.not_true, cond_false, hr, Option.bind_some]
      cases r with
      | true => exact ⟨_, rfl, 29, j, _, rfl, h3, fun h => (by cases h)⟩
      | false =>
        rw [cond_false, here_eq b j _ h3, Option.bind_some]
        have okT : ∀ (k : Nat) (tx : List UInt8), i < k → TokOk b i ⟨8, t.At, v, t.Pairs, tx, t.Refs⟩ k := fun k tx hk => ⟨hk, ht, by show (true : Bool) = !(v == []); rw [ne_nil_beq h6]; rfl, by show (nmP t.Pairs).Nodup; rw [hp]; exact List.nodup_nil, fun h => (by cases h), fun _ => h60, fun h => (by cases h), by show t.Pairs.length ≤ _; rw [hp]; exact Nat.zero_le _⟩
        cases hh : hereP b j [63, 62] with
        | true =>
          have := hereP_len hh h3
          rw [cond_true, sign_eq b _ _ h3 hb, hh, if_pos rfl, Option.bind_some]
          exact ⟨_, rfl, 0, j + 2, _, rfl, by simpa using this, fun _ => okT _ _ (by omega)⟩
        | false =>
          obtain ⟨s1, s2⟩ := sk_le wsP b j h3
          rw [cond_false, spaces_eq b _ j h3 hb, Option.bind_some]
          cases ((sk wsP b j : Nat) : Int) == (j : Int) with
          | true => exact ⟨_, rfl, 23, j, _, rfl, h3, fun h => (by cases h)⟩
          | false =>
            obtain ⟨e2, k, x, u1, u2, u3⟩ := upTo_sp b (sk wsP b j) 0 ⟨8, t.At, v, t.Pairs, t.Text, t.Refs⟩ [63, 62] (by simp) (by omega) hb (by simp)
            rw [cond_false, show (0 : Int) = ((0 : Nat) : Int) from rfl, u1, Option.bind_some]
            exact ⟨_, rfl, e2, k, _, rfl, u2, fun h => okT _ _ (by have := u3 h; omega)⟩
  · rw [show (e != 0) = true by simpa using he, cond_true]
    exact ⟨_, rfl, e, j, _, rfl, h3, fun h => absurd h he⟩

/-! ## Tags -/
theorem tag_l1 (k At : Int) (Nm : List UInt8) (ps : List T_scan_Pair) (Tx : List UInt8) (rf : Int) (x27 x31 : ((List UInt8) × Int) × T_scan_scanner) (hl : ps.length ≤ 1073741824) :
    ∃ o, iter (F_scan_scanner_tag_l1 k At Nm ps Tx rf x27 x31) FUEL (0 : Int) = some o ∧ ((o = .inl () ∧ ∀ p ∈ ps, p.Name ≠ x27.1.1) ∨ o = .inr ((27 : Int), x31.2, ⟨k, At, Nm, ps, Tx, rf⟩)) := by
  refine iter_spec (b := F_scan_scanner_tag_l1 k At Nm ps Tx rf x27 x31) (fun i x => x = (i : Int) ∧ ∀ p ∈ ps.take i, p.Name ≠ x27.1.1) _ ps.length (x0 := (0 : Int)) ⟨rfl, by simp⟩ ?_ ?_ (n := FUEL) (by unfold FUEL; omega)
  · rintro i _ rec hi ⟨rfl, hI⟩
    unfold F_scan_scanner_tag_l1
    rw [decide_eq_true (by omega), cond_true, idx_some hi, Option.bind_some]
    by_cases h : ps[i].Name = x27.1.1
    · rw [show (ps[i].Name == x27.1.1) = true by simpa using h, cond_true]
      exact .inr ⟨_, rfl, .inr rfl⟩
    · rw [show (ps[i].Name == x27.1.1) = false by simpa using h, cond_false, w64 (by omega) (by omega)]
      refine .inl ⟨((i + 1 : Nat) : Int), rfl, rfl, fun p hp => ?_⟩
      rw [List.take_add_one, List.getElem?_eq_getElem hi, Option.toList_some, List.mem_append, List.mem_singleton] at hp
      rcases hp with hp | rfl
      · exact hI p hp
      · exact h
  · rintro _ rec ⟨rfl, hI⟩
    unfold F_scan_scanner_tag_l1
    rw [decide_eq_false (by omega), cond_false]
    rw [List.take_length] at hI
    exact ⟨_, rfl, .inl ⟨rfl, hI⟩⟩
theorem tag_sp (b : List UInt8) (i : Nat) (t : Tk) (hi : i + 1 ≤ b.length) (hb : b.length ≤ 65536) (h60 : b[i]? = some 60) (ht : t.At = (i : Int)) (hp : t.Pairs = []) : ∃ x, F_scan_scanner_tag ⟨b, (i : Int)⟩ t = some x ∧ TokR b i x := by
  have hb' : b.length ≤ 1073741824 := by omega
  unfold F_scan_scanner_tag
  dsimp only
  rw [w64 (x := (i : Int) + 1) (by omega) (by omega), show (i : Int) + 1 = ((i + 1 : Nat) : Int) by omega]
  obtain ⟨v, e, j, h1, h2, h3, h4, h5⟩ := name_sp b (i + 1) hi hb'
  rw [h1, Option.bind_some]
  dsimp only
  by_cases he : e = 0
  case neg =>
    rw [show (e != 0) = true by simpa using he, cond_true]
    exact ⟨_, rfl, e, j, _, rfl, h3, fun h => absurd h he⟩
  obtain ⟨h6, h7⟩ := h5 he
  rw [show (e != 0) = false by simpa using he, cond_false]
  have hh := iter_dec (b := F_scan_scanner_tag_l0) (fun x => b.length - x.2.1.toNat) (fun x => ∃ (j : Nat) (ps : List T_scan_Pair) (y z : List UInt8), x = (b, (j : Int), (2 : Int), t.At, v, ps, t.Text, t.Refs, y, z) ∧ i < j ∧ j ≤ b.length ∧ ps.length ≤ j ∧ (nmP ps).Nodup) (fun o => TokR b i o) ?_ FUEL
    (b, (j : Int), (2 : Int), t.At, v, t.Pairs, t.Text, t.Refs, ([] : List UInt8), ([] : List UInt8)) ⟨j, t.Pairs, [], [], rfl, by omega, h3, by rw [hp]; simp, by rw [hp]; exact List.nodup_nil⟩ (by unfold FUEL; dsimp only; omega)
  · obtain ⟨o, e1, e2⟩ := hh
    rw [e1]
    exact ⟨o, rfl, e2⟩
  rintro _ ⟨j, ps, y, z, rfl, g1, g2, g3, g4⟩
  have okT : ∀ (kd : Int) (k : Nat), (kd = 2 ∨ kd = 4) → i < k → TokOk b i ⟨kd, t.At, v, ps, t.Text, t.Refs⟩ k := fun kd k hk hik => ⟨hik, ht, by rcases hk with rfl | rfl <;> (show (true : Bool) = !(v == []); rw [ne_nil_beq h6]; rfl), g4, fun h => (by rcases hk with rfl | rfl <;> cases h), fun _ => h60, fun h => (by rcases hk with rfl | rfl <;> cases h), by show ps.length ≤ _; omega⟩
  obtain ⟨s1, s2⟩ := sk_le wsP b j g2
  have hsp := spaces_eq b (j : Int) j g2 hb'
  have hh1 := here_eq b (sk wsP b j) [47, 62] s2
  have hh2 := here_eq b (sk wsP b j) [62] s2
  cases c1 : hereP b (sk wsP b j) [47, 62] with
  | true =>
    right
    have hl := hereP_len c1 s2
    rw [c1] at hh1
    refine ⟨(0, ⟨b, ((sk wsP b j + 2 : Nat) : Int)⟩, ⟨4, t.At, v, ps, t.Text, t.Refs⟩), fun rec => ?_, 0, sk wsP b j + 2, _, rfl, by simpa using hl, fun _ => okT 4 _ (.inr rfl) (by omega)⟩
    unfold F_scan_scanner_tag_l0
    dsimp only
    rw [hsp, Option.bind_some, hh1, Option.bind_some, cond_true, sign_eq b _ _ s2 hb', c1, if_pos rfl, Option.bind_some]
    rfl
  | false =>
  rw [c1] at hh1
  cases c2 : hereP b (sk wsP b j) [62] with
  | true =>
    right
    have hl := hereP_len c2 s2
    rw [c2] at hh2
    refine ⟨(0, ⟨b, ((sk wsP b j + 1 : Nat) : Int)⟩, ⟨2, t.At, v, ps, t.Text, t.Refs⟩), fun rec => ?_, 0, sk wsP b j + 1, _, rfl, by simpa using hl, fun _ => okT 2 _ (.inl rfl) (by omega)⟩
    unfold F_scan_scanner_tag_l0
    dsimp only
    rw [hsp, Option.bind_some, hh1, Option.bind_some, cond_false, hh2, Option.bind_some, cond_true, sign_eq b _ _ s2 hb', c2, if_pos rfl, Option.bind_some]
    rfl
  | false =>
  rw [c2] at hh2
  by_cases c3 : sk wsP b j = j
  · right
    refine ⟨(23, ⟨b, ((sk wsP b j : Nat) : Int)⟩, ⟨2, t.At, v, ps, t.Text, t.Refs⟩), fun rec => ?_, 23, sk wsP b j, _, rfl, s2, fun h => (by cases h)⟩
    unfold F_scan_scanner_tag_l0
    dsimp only
    rw [hsp, Option.bind_some, hh1, Option.bind_some, cond_false, hh2, Option.bind_some, cond_false, show (((sk wsP b j : Nat) : Int) == (j : Int)) = true by simp [c3], cond_true]
  have c3' : (((sk wsP b j : Nat) : Int) == (j : Int)) = false := by
    rw [beq_eq_false_iff_ne]; omega
  obtain ⟨nm, e1, k1, n1, n2, n3, n4, n5⟩ := name_sp b (sk wsP b j) s2 hb'
  by_cases ce1 : e1 = 0
  case neg =>
    right
    refine ⟨(e1, ⟨b, (k1 : Int)⟩, ⟨2, t.At, v, ps, t.Text, t.Refs⟩), fun rec => ?_, e1, k1, _, rfl, n3, fun h => absurd h ce1⟩
    unfold F_scan_scanner_tag_l0
    dsimp only
    rw [hsp, Option.bind_some, hh1, Option.bind_some, cond_false, hh2, Option.bind_some, cond_false, c3', cond_false, n1, Option.bind_some]
    dsimp only
    rw [show (e1 != 0) = true by simpa using ce1, cond_true]
  obtain ⟨n6, n7⟩ := n5 ce1
  obtain ⟨e2, k2, q1, q2, q3⟩ := equals_sp b k1 n3 hb'
  by_cases ce2 : e2 = 0
  case neg =>
    right
    refine ⟨(e2, ⟨b, (k2 : Int)⟩, ⟨2, t.At, v, ps, t.Text, t.Refs⟩), fun rec => ?_, e2, k2, _, rfl, q3, fun h => absurd h ce2⟩
    unfold F_scan_scanner_tag_l0
    dsimp only
    rw [hsp, Option.bind_some, hh1, Option.bind_some, cond_false, hh2, Option.bind_some, cond_false, c3', cond_false, n1, Option.bind_some]
    dsimp only
    rw [show (e1 != 0) = false by simpa using ce1, cond_false, q1, Option.bind_some]
    dsimp only
    rw [show (e2 != 0) = true by simpa using ce2, cond_true]
  obtain ⟨rv, e3, k3, w1, w2, w3, w4, w5⟩ := quoted_sp b k2 q3 hb'
  by_cases ce3 : e3 = 0
  case neg =>
    right
    refine ⟨(e3, ⟨b, (k3 : Int)⟩, ⟨2, t.At, v, ps, t.Text, t.Refs⟩), fun rec => ?_, e3, k3, _, rfl, w3, fun h => absurd h ce3⟩
    unfold F_scan_scanner_tag_l0
    dsimp only
    rw [hsp, Option.bind_some, hh1, Option.bind_some, cond_false, hh2, Option.bind_some, cond_false, c3', cond_false, n1, Option.bind_some]
    dsimp only
    rw [show (e1 != 0) = false by simpa using ce1, cond_false, q1, Option.bind_some]
    dsimp only
    rw [show (e2 != 0) = false by simpa using ce2, cond_false, w1, Option.bind_some]
    dsimp only
    rw [show (e3 != 0) = true by simpa using ce3, cond_true]
  obtain ⟨rd, hrd⟩ := read_some rv true (by omega)
  have hrv : F_refer_ReadValue rv = some (rd.1, rd.2.1, rd.2.2) := by unfold F_refer_ReadValue; rw [hrd]; rfl
  by_cases ce4 : rd.2.2 = 0
  case neg =>
    right
    refine ⟨(rd.2.2, ⟨b, (k3 : Int)⟩, ⟨2, t.At, v, ps, t.Text, t.Refs⟩), fun rec => ?_, rd.2.2, k3, _, rfl, w3, fun h => absurd h ce4⟩
    unfold F_scan_scanner_tag_l0
    dsimp only
    rw [hsp, Option.bind_some, hh1, Option.bind_some, cond_false, hh2, Option.bind_some, cond_false, c3', cond_false, n1, Option.bind_some]
    dsimp only
    rw [show (e1 != 0) = false by simpa using ce1, cond_false, q1, Option.bind_some]
    dsimp only
    rw [show (e2 != 0) = false by simpa using ce2, cond_false, w1, Option.bind_some]
    dsimp only
    rw [show (e3 != 0) = false by simpa using ce3, cond_false, hrv, Option.bind_some]
    dsimp only
    rw [show (rd.2.2 != 0) = true by simpa using ce4, cond_true]
  have hbody : ∀ rec, F_scan_scanner_tag_l0 rec (b, (j : Int), (2 : Int), t.At, v, ps, t.Text, t.Refs, y, z) = (iter (F_scan_scanner_tag_l1 2 t.At v ps t.Text t.Refs ((nm, e1), ⟨b, (k1 : Int)⟩) ((rv, e3), ⟨b, (k3 : Int)⟩)) FUEL 0).bind fun o => match o with
      | .inl _ => (app 32 ps [(⟨nm, rd.1⟩ : T_scan_Pair)]).bind fun _ => (some (ps ++ [(⟨nm, rd.1⟩ : T_scan_Pair)])).bind fun a51 => rec (b, (k3 : Int), (2 : Int), t.At, v, a51, t.Text, t.Refs, nm, rd.1)
      | .inr o1 => some o1 := by
    intro rec
    unfold F_scan_scanner_tag_l0
    dsimp only
    rw [hsp, Option.bind_some, hh1, Option.bind_some, cond_false, hh2, Option.bind_some, cond_false, c3', cond_false, n1, Option.bind_some]
    dsimp only
    rw [show (e1 != 0) = false by simpa using ce1, cond_false, q1, Option.bind_some]
    dsimp only
    rw [show (e2 != 0) = false by simpa using ce2, cond_false, w1, Option.bind_some]
    dsimp only
    rw [show (e3 != 0) = false by simpa using ce3, cond_false, hrv, Option.bind_some]
    dsimp only
    rw [show (rd.2.2 != 0) = false by simpa using ce4, cond_false]
    simp only [letJ]
    rfl
  obtain ⟨o, l1, l2⟩ := tag_l1 2 t.At v ps t.Text t.Refs ((nm, e1), ⟨b, (k1 : Int)⟩) ((rv, e3), ⟨b, (k3 : Int)⟩) (by omega)
  rcases l2 with ⟨rfl, hno⟩ | rfl
  · left
    have w6 := w5 ce3
    refine ⟨(b, (k3 : Int), (2 : Int), t.At, v, ps ++ [(⟨nm, rd.1⟩ : T_scan_Pair)], t.Text, t.Refs, nm, rd.1), fun rec => ?_, ⟨k3, _, nm, rd.1, rfl, by omega, w3, by simp; omega, ?_⟩, by dsimp only; omega⟩
    · rw [hbody, l1, Option.bind_some]
      dsimp only
      rw [app_some (by simp; omega) (by simp; omega), Option.bind_some, Option.bind_some]
    · unfold nmP at g4 ⊢
      rw [List.map_append, List.nodup_append]
      refine ⟨g4, by simp, fun a ha c hc hac => ?_⟩
      rw [List.mem_map] at ha
      obtain ⟨p, hpm, rfl⟩ := ha
      simp at hc
      subst hc
      exact hno p hpm hac
  · right
    exact ⟨_, fun rec => by rw [hbody, l1, Option.bind_some], 27, k3, _, rfl, w3, fun h => (by cases h)⟩
end Go.Proofs.YtfokkdofcekdbaaDoor
