/- The scanner's declaration and its token: what each is. No condition. -/
import Derived.Test.YtfokkdofcekdbaaDoorSd
set_option linter.unusedSimpArgs false
set_option linter.unusedVariables false
set_option maxRecDepth 20000
namespace Go.Proofs.YtfokkdofcekdbaaDoor
open Go.Lib (decodeL decodeN)

abbrev DeclW : List (List UInt8) := [([118, 101, 114, 115, 105, 111, 110] : List UInt8), ([101, 110, 99, 111, 100, 105, 110, 103] : List UInt8), ([115, 116, 97, 110, 100, 97, 108, 111, 110, 101] : List UInt8)]
theorem declW_at (k : Nat) (hk : k < 3) : ∃ w, idx DeclW (k : Int) = some w ∧ w.length ≤ 10 ∧ 1 ≤ w.length ∧ DeclW.take (k + 1) = DeclW.take k ++ [w] := by
  have h : k = 0 ∨ k = 1 ∨ k = 2 := by omega
  rcases h with rfl | rfl | rfl
  · exact ⟨_, rfl, by decide, by decide, rfl⟩
  · exact ⟨_, rfl, by decide, by decide, rfl⟩
  · exact ⟨_, rfl, by decide, by decide, rfl⟩
theorem decl_l0 (b : List UInt8) (At : Int) (Nm Tx : List UInt8) (rf : Int) (h5 : 5 ≤ b.length) (hb : b.length ≤ 1073741824) :
    ∃ o, iter (F_scan_scanner_decl_l0) FUEL (b, (5 : Int), (1 : Int), At, Nm, ([] : List T_scan_Pair), Tx, rf, ([] : List UInt8), (0 : Int)) = some o ∧
    ((∃ (j : Nat) (ps : List T_scan_Pair) (la : List UInt8), o = .inl (b, (j : Int), la, (1 : Int), At, Nm, ps, Tx, rf) ∧ 5 ≤ j ∧ j ≤ b.length ∧ (nmP ps).Nodup ∧ ps.length ≤ 3 ∧ la.length ≤ 1073741824 ∧ ∀ c ∈ la, c.toNat < 128) ∨
     (∃ (j : Nat) (t' : Tk), o = .inr ((23 : Int), ⟨b, (j : Int)⟩, t') ∧ j ≤ b.length)) := by
  refine iter_dec (b := F_scan_scanner_decl_l0) (fun x => 3 - x.2.2.2.2.2.2.2.2.2.toNat) (fun x => ∃ (j k : Nat) (ps : List T_scan_Pair) (la : List UInt8), x = (b, (j : Int), (1 : Int), At, Nm, ps, Tx, rf, la, (k : Int)) ∧ 5 ≤ j ∧ j ≤ b.length ∧ k ≤ 3 ∧ (nmP ps).Sublist (DeclW.take k) ∧ ps.length ≤ k ∧ la.length ≤ 1073741824 ∧ ∀ c ∈ la, c.toNat < 128) _ ?_ FUEL _ ⟨5, 0, [], [], rfl, by omega, h5, by omega, List.nil_sublist _, by simp, by simp, by simp⟩ (by unfold FUEL; dsimp only; omega)
  rintro _ ⟨j, k, ps, la, rfl, g1, g2, g3, g4, g5, g6, g7⟩
  by_cases hk : k < 3
  case neg =>
    right
    refine ⟨.inl (b, (j : Int), la, (1 : Int), At, Nm, ps, Tx, rf), fun rec => ?_, .inl ⟨j, ps, la, rfl, g1, g2, ?_, by omega, g6, g7⟩⟩
    · unfold F_scan_scanner_decl_l0
      dsimp only
      rw [show decide ((k : Int) < (DeclW.length : Int)) = false from decide_eq_false (show ¬ (k : Int) < ((3 : Nat) : Int) by omega), cond_false]
    · exact (g4.trans (List.take_sublist _ _)).nodup (by decide)
  obtain ⟨w, hidx, w1, w2, w3⟩ := declW_at k hk
  have hkt : decide ((k : Int) < (DeclW.length : Int)) = true := decide_eq_true (show (k : Int) < ((3 : Nat) : Int) by omega)
  obtain ⟨s1, s2⟩ := sk_le wsP b j g2
  have hsp := spaces_eq b (j : Int) j g2 hb
  have hk1 : IntKind.wrap .i64 ((k : Int) + 1) = ((k + 1 : Nat) : Int) := by rw [w64 (by omega) (by omega)]; omega
  have skipI : ∃ (j' k' : Nat) (ps' : List T_scan_Pair) (la' : List UInt8), (b, (j : Int), (1 : Int), At, Nm, ps, Tx, rf, la, ((k + 1 : Nat) : Int)) = (b, (j' : Int), (1 : Int), At, Nm, ps', Tx, rf, la', (k' : Int)) ∧ 5 ≤ j' ∧ j' ≤ b.length ∧ k' ≤ 3 ∧ (nmP ps').Sublist (DeclW.take k') ∧ ps'.length ≤ k' ∧ la'.length ≤ 1073741824 ∧ ∀ c ∈ la', c.toNat < 128 :=
    ⟨j, k + 1, ps, la, rfl, g1, g2, by omega, by rw [w3]; exact g4.trans (List.sublist_append_left _ _), by omega, g6, g7⟩
  by_cases c3 : sk wsP b j = j
  · have c3' : (((sk wsP b j : Nat) : Int) == (j : Int)) = true := by simp [c3]
    cases hv : w == ([118, 101, 114, 115, 105, 111, 110] : List UInt8) with
    | true =>
      right
      refine ⟨.inr ((23 : Int), ⟨b, (j : Int)⟩, ⟨1, At, Nm, ps, Tx, rf⟩), fun rec => ?_, .inr ⟨j, _, rfl, g2⟩⟩
      unfold F_scan_scanner_decl_l0
      dsimp only
      rw [hkt, cond_true]
      simp only [letJ]
      rw [hidx, Option.bind_some, hsp, Option.bind_some, c3', cond_true, cond_true, hv, cond_true]
    | false =>
      left
      refine ⟨_, fun rec => ?_, skipI, by dsimp only; omega⟩
      unfold F_scan_scanner_decl_l0
      dsimp only
      rw [hkt, cond_true]
      simp only [letJ]
      rw [hidx, Option.bind_some, hsp, Option.bind_some, c3', cond_true, cond_true, hv, cond_false, hk1]
  have c3' : (((sk wsP b j : Nat) : Int) == (j : Int)) = false := by rw [beq_eq_false_iff_ne]; omega
  cases hh : hereP b (sk wsP b j) w with
  | false =>
    have hh' : w.isPrefixOf (b.drop (sk wsP b j)) = false := hh
    cases hv : w == ([118, 101, 114, 115, 105, 111, 110] : List UInt8) with
    | true =>
      right
      refine ⟨.inr ((23 : Int), ⟨b, (j : Int)⟩, ⟨1, At, Nm, ps, Tx, rf⟩), fun rec => ?_, .inr ⟨j, _, rfl, g2⟩⟩
      unfold F_scan_scanner_decl_l0
      dsimp only
      rw [hkt, cond_true]
      simp only [letJ]
      rw [hidx, Option.bind_some, hsp, Option.bind_some, c3', cond_false, slc_drop s2, Option.bind_some, hasPrefix_eq, Option.bind_some, hh', Bool.not_false, cond_true, hv, cond_true]
    | false =>
      left
      refine ⟨_, fun rec => ?_, skipI, by dsimp only; omega⟩
      unfold F_scan_scanner_decl_l0
      dsimp only
      rw [hkt, cond_true]
      simp only [letJ]
      rw [hidx, Option.bind_some, hsp, Option.bind_some, c3', cond_false, slc_drop s2, Option.bind_some, hasPrefix_eq, Option.bind_some, hh', Bool.not_false, cond_true, hv, cond_false, hk1]
  | true =>
    have hh' : w.isPrefixOf (b.drop (sk wsP b j)) = true := hh
    have hl := hereP_len hh s2
    have hadd : IntKind.wrap .i64 (((sk wsP b j : Nat) : Int) + (w.length : Int)) = ((sk wsP b j + w.length : Nat) : Int) := by rw [w64 (by omega) (by omega)]; omega
    obtain ⟨e2, k2, q1, q2, q3⟩ := equals_sp b (sk wsP b j + w.length) hl hb
    have pre : ∀ rec, F_scan_scanner_decl_l0 rec (b, (j : Int), (1 : Int), At, Nm, ps, Tx, rf, la, (k : Int)) = cond (e2 != 0) (some (.inr ((23 : Int), ⟨b, (k2 : Int)⟩, ⟨1, At, Nm, ps, Tx, rf⟩)))
        ((F_scan_scanner_quoted ⟨b, (k2 : Int)⟩).bind fun x122 =>
        (letJ (fun v125 : Bool => cond v125
          (some (.inr ((23 : Int), x122.2, (⟨1, At, Nm, ps, Tx, rf⟩ : T_scan_Token))))
          ((app 32 ps [(⟨w, x122.1.1⟩ : T_scan_Pair)]).bind fun _ =>
           (some (ps ++ [(⟨w, x122.1.1⟩ : T_scan_Pair)])).bind fun a129 =>
          cond (w == ([101, 110, 99, 111, 100, 105, 110, 103] : List UInt8))
           (rec (x122.2.b, x122.2.at_, (1 : Int), At, Nm, a129, Tx, rf, x122.1.1, ((k + 1 : Nat) : Int)))
           (rec (x122.2.b, x122.2.at_, (1 : Int), At, Nm, a129, Tx, rf, la, ((k + 1 : Nat) : Int))))) fun J124 => cond (x122.1.2 != (0 : Int)) (J124 true) ((F_scan_fits w x122.1.1).bind fun x126 =>
         J124 (!x126)))) := by
      intro rec
      unfold F_scan_scanner_decl_l0
      dsimp only
      rw [hkt, cond_true]
      simp only [letJ]
      rw [hidx, Option.bind_some, hsp, Option.bind_some, c3', cond_false, slc_drop s2, Option.bind_some, hasPrefix_eq, Option.bind_some, hh', Bool.not_true, cond_false, hadd, q1, Option.bind_some]
      simp only [hk1]
    by_cases ce2 : e2 = 0
    case neg =>
      right
      refine ⟨.inr ((23 : Int), ⟨b, (k2 : Int)⟩, ⟨1, At, Nm, ps, Tx, rf⟩), fun rec => ?_, .inr ⟨k2, _, rfl, q3⟩⟩
      rw [pre, show (e2 != 0) = true by simpa using ce2, cond_true]
    obtain ⟨rv, e3, k3, u1, u2, u3, u4, u5⟩ := quoted_sp b k2 q3 hb
    by_cases ce3 : e3 = 0
    case neg =>
      right
      refine ⟨.inr ((23 : Int), ⟨b, (k3 : Int)⟩, ⟨1, At, Nm, ps, Tx, rf⟩), fun rec => ?_, .inr ⟨k3, _, rfl, u3⟩⟩
      rw [pre, show (e2 != 0) = false by simpa using ce2, cond_false, u1, Option.bind_some]
      simp only [letJ]
      rw [show (e3 != 0) = true by simpa using ce3, cond_true, cond_true]
    obtain ⟨r, hr, hr2⟩ := fits_sp w rv (by omega)
    cases r with
    | false =>
      right
      refine ⟨.inr ((23 : Int), ⟨b, (k3 : Int)⟩, ⟨1, At, Nm, ps, Tx, rf⟩), fun rec => ?_, .inr ⟨k3, _, rfl, u3⟩⟩
      rw [pre, show (e2 != 0) = false by simpa using ce2, cond_false, u1, Option.bind_some]
      simp only [letJ]
      rw [show (e3 != 0) = false by simpa using ce3, cond_false, hr, Option.bind_some, Bool.not_false, cond_true]
    | true =>
      left
      have hsub : (nmP (ps ++ [(⟨w, rv⟩ : T_scan_Pair)])).Sublist (DeclW.take (k + 1)) := by
        rw [w3]; unfold nmP at g4 ⊢; rw [List.map_append]; exact g4.append (List.Sublist.refl _)
      cases he : w == ([101, 110, 99, 111, 100, 105, 110, 103] : List UInt8) with
      | true =>
        refine ⟨(b, (k3 : Int), (1 : Int), At, Nm, ps ++ [(⟨w, rv⟩ : T_scan_Pair)], Tx, rf, rv, ((k + 1 : Nat) : Int)), fun rec => ?_, ⟨k3, k + 1, _, rv, rfl, by omega, u3, by omega, hsub, by simp; omega, by omega, hr2 (by simpa using he) rfl⟩, by dsimp only; omega⟩
        rw [pre, show (e2 != 0) = false by simpa using ce2, cond_false, u1, Option.bind_some]
        simp only [letJ]
        rw [show (e3 != 0) = false by simpa using ce3, cond_false, hr, Option.bind_some, Bool.not_true, cond_false, app_some (by simp; omega) (by simp; omega), Option.bind_some, Option.bind_some, he, cond_true]
      | false =>
        refine ⟨(b, (k3 : Int), (1 : Int), At, Nm, ps ++ [(⟨w, rv⟩ : T_scan_Pair)], Tx, rf, la, ((k + 1 : Nat) : Int)), fun rec => ?_, ⟨k3, k + 1, _, la, rfl, by omega, u3, by omega, hsub, by simp; omega, g6, g7⟩, by dsimp only; omega⟩
        rw [pre, show (e2 != 0) = false by simpa using ce2, cond_false, u1, Option.bind_some]
        simp only [letJ]
        rw [show (e3 != 0) = false by simpa using ce3, cond_false, hr, Option.bind_some, Bool.not_true, cond_false, app_some (by simp; omega) (by simp; omega), Option.bind_some, Option.bind_some, he, cond_false]
theorem decl_sp (b : List UInt8) (t : Tk) (h5 : 5 ≤ b.length) (hb : b.length ≤ 1073741824) (h60 : b[0]? = some 60) (ht : t.At = 0) (hn : t.Name = []) (hp : t.Pairs = []) : ∃ x, F_scan_scanner_decl ⟨b, (0 : Int)⟩ t = some x ∧ TokR b 0 x := by
  unfold F_scan_scanner_decl
  simp only [letJ]
  rw [hp]
  obtain ⟨o, e1, e2⟩ := decl_l0 b t.At t.Name t.Text t.Refs h5 hb
  rw [e1, Option.bind_some]
  rcases e2 with ⟨j, ps, la, rfl, h1, h2, h3, h7, h4, h6⟩ | ⟨j, t', rfl, h1⟩
  · dsimp only
    obtain ⟨s1, s2⟩ := sk_le wsP b j h2
    rw [spaces_eq b _ j h2 hb, Option.bind_some, sign_eq b _ _ s2 hb]
    cases hh : hereP b (sk wsP b j) [63, 62] with
    | false =>
      rw [if_neg (by simp), Option.bind_some]
      exact ⟨_, rfl, 23, sk wsP b j, _, rfl, s2, fun h => (by cases h)⟩
    | true =>
      have hl := hereP_len hh s2
      have okT : TokOk b 0 ⟨1, t.At, t.Name, ps, t.Text, t.Refs⟩ (sk wsP b j + 2) := ⟨by omega, by rw [ht]; rfl, by show (false : Bool) = !(t.Name == []); rw [hn]; rfl, h3, fun h => (by cases h), fun _ => h60, fun _ => rfl, by show ps.length ≤ _; omega⟩
      rw [if_pos rfl, Option.bind_some]
      dsimp only
      rw [show ((0 : Int) != 0) = false from rfl, cond_false]
      cases la == ([] : List UInt8) with
      | true =>
        rw [Bool.not_true, cond_false, cond_false]
        exact ⟨_, rfl, 0, sk wsP b j + 2, _, rfl, by simpa using hl, fun _ => okT⟩
      | false =>
        obtain ⟨r, hr⟩ := eqf_ascii la [117, 116, 102, 45, 56] h4 (by simp) h6 (by decide)
        rw [Bool.not_false, cond_true, hr, Option.bind_some]
        cases r with
        | true =>
          rw [Bool.not_true, cond_false]
          exact ⟨_, rfl, 0, sk wsP b j + 2, _, rfl, by simpa using hl, fun _ => okT⟩
        | false =>
          rw [Bool.not_false, cond_true]
          exact ⟨_, rfl, 25, sk wsP b j + 2, _, rfl, by simpa using hl, fun h => (by cases h)⟩
  · dsimp only
    exact ⟨_, rfl, 23, j, t', rfl, h1, fun h => (by cases h)⟩
theorem token_sp (b : List UInt8) (i : Nat) (hi : i < b.length) (hb : b.length ≤ 65536) : ∃ x, F_scan_scanner_token ⟨b, (i : Int)⟩ ⟨(0 : Int), (i : Int), ([] : List UInt8), ([] : List T_scan_Pair), ([] : List UInt8), (0 : Int)⟩ = some x ∧ TokR b i x := by
  have hb' : b.length ≤ 1073741824 := by omega
  have hle : i ≤ b.length := Nat.le_of_lt hi
  have rest : ∃ x, ((F_scan_scanner_here (⟨b, (i : Int)⟩ : T_scan_scanner) ([60, 33, 45, 45] : List UInt8)).bind fun x12 =>
       cond x12
        ((F_scan_scanner_upTo ⟨b, (i : Int)⟩ (⟨(7 : Int), (i : Int), ([] : List UInt8), ([] : List T_scan_Pair), ([] : List UInt8), (0 : Int)⟩ : T_scan_Token) (4 : Int) ([45, 45] : List UInt8)).bind fun x14 =>
        cond (x14.1 != (0 : Int))
         (some (x14.1, x14.2.1, x14.2.2))
         ((F_scan_scanner_sign x14.2.1 ([62] : List UInt8)).bind fun x17 =>
         some (x17.1, x17.2, x14.2.2)))
        ((F_scan_scanner_here (⟨b, (i : Int)⟩ : T_scan_scanner) ([60, 33, 91, 67, 68, 65, 84, 65, 91] : List UInt8)).bind fun x18 =>
        cond x18
         ((F_scan_scanner_upTo ⟨b, (i : Int)⟩ (⟨(6 : Int), (i : Int), ([] : List UInt8), ([] : List T_scan_Pair), ([] : List UInt8), (0 : Int)⟩ : T_scan_Token) (9 : Int) ([93, 93, 62] : List UInt8)).bind fun x20 =>
         some (x20.1, x20.2.1, x20.2.2))
         ((F_scan_scanner_here (⟨b, (i : Int)⟩ : T_scan_scanner) ([60, 33, 68, 79, 67, 84, 89, 80, 69] : List UInt8)).bind fun x22 =>
         cond x22
          (some ((25 : Int), (⟨b, (i : Int)⟩ : T_scan_scanner), (⟨(0 : Int), (i : Int), ([] : List UInt8), ([] : List T_scan_Pair), ([] : List UInt8), (0 : Int)⟩ : T_scan_Token)))
          ((F_scan_scanner_here (⟨b, (i : Int)⟩ : T_scan_scanner) ([60, 33] : List UInt8)).bind fun x24 =>
          cond x24
           (some ((23 : Int), (⟨b, (i : Int)⟩ : T_scan_scanner), (⟨(0 : Int), (i : Int), ([] : List UInt8), ([] : List T_scan_Pair), ([] : List UInt8), (0 : Int)⟩ : T_scan_Token)))
           ((F_scan_scanner_here (⟨b, (i : Int)⟩ : T_scan_scanner) ([60, 63] : List UInt8)).bind fun x26 =>
           cond x26
            ((F_scan_scanner_instr (⟨b, (i : Int)⟩ : T_scan_scanner) ⟨(0 : Int), (i : Int), ([] : List UInt8), ([] : List T_scan_Pair), ([] : List UInt8), (0 : Int)⟩).bind fun x28 =>
            some (x28.1, x28.2.1, x28.2.2))
            ((F_scan_scanner_here (⟨b, (i : Int)⟩ : T_scan_scanner) ([60, 47] : List UInt8)).bind fun x30 =>
            cond x30
             ((F_scan_scanner_closing (⟨b, (i : Int)⟩ : T_scan_scanner) ⟨(0 : Int), (i : Int), ([] : List UInt8), ([] : List T_scan_Pair), ([] : List UInt8), (0 : Int)⟩).bind fun x32 =>
             some (x32.1, x32.2.1, x32.2.2))
             ((F_scan_scanner_here (⟨b, (i : Int)⟩ : T_scan_scanner) ([60] : List UInt8)).bind fun x34 =>
             cond x34
              ((F_scan_scanner_tag (⟨b, (i : Int)⟩ : T_scan_scanner) ⟨(0 : Int), (i : Int), ([] : List UInt8), ([] : List T_scan_Pair), ([] : List UInt8), (0 : Int)⟩).bind fun x36 =>
              some (x36.1, x36.2.1, x36.2.2))
              ((F_scan_scanner_text (⟨b, (i : Int)⟩ : T_scan_scanner) ⟨(0 : Int), (i : Int), ([] : List UInt8), ([] : List T_scan_Pair), ([] : List UInt8), (0 : Int)⟩).bind fun x38 =>
              some (x38.1, x38.2.1, x38.2.2))))))))) = some x ∧ TokR b i x := by
    rw [here_eq b i _ hle, Option.bind_some]
    cases c1 : hereP b i [60, 33, 45, 45] with
    | true =>
      have hl := hereP_len c1 hle
      obtain ⟨e, j, x, u1, u2, u3⟩ := upTo_sp b i 4 ⟨(7 : Int), (i : Int), [], [], [], 0⟩ [45, 45] (by simp) (by simpa using hl) hb' (by simp)
      rw [cond_true, show (4 : Int) = ((4 : Nat) : Int) from rfl, u1, Option.bind_some]
      dsimp only
      by_cases he : e = 0
      case neg =>
        rw [show (e != 0) = true by simpa using he, cond_true]
        exact ⟨_, rfl, e, j, _, rfl, u2, fun h => absurd h he⟩
      rw [show (e != 0) = false by simpa using he, cond_false, sign_eq b j _ u2 hb']
      have := u3 he
      cases hh : hereP b j [62] with
      | false =>
        rw [if_neg (by simp), Option.bind_some]
        exact ⟨_, rfl, 23, j, _, rfl, u2, fun h => (by cases h)⟩
      | true =>
        have hl2 := hereP_len hh u2
        rw [if_pos rfl, Option.bind_some]
        exact ⟨_, rfl, 0, j + 1, _, rfl, by simpa using hl2, fun _ => ⟨by omega, rfl, rfl, List.nodup_nil, fun h => (by cases h), fun _ => hereP_get c1, fun h => (by cases h), Nat.zero_le _⟩⟩
    | false =>
    rw [cond_false, here_eq b i _ hle, Option.bind_some]
    cases c2 : hereP b i [60, 33, 91, 67, 68, 65, 84, 65, 91] with
    | true =>
      have hl := hereP_len c2 hle
      obtain ⟨e, j, x, u1, u2, u3⟩ := upTo_sp b i 9 ⟨(6 : Int), (i : Int), [], [], [], 0⟩ [93, 93, 62] (by simp) (by simpa using hl) hb' (by simp)
      rw [cond_true, show (9 : Int) = ((9 : Nat) : Int) from rfl, u1, Option.bind_some]
      exact ⟨_, rfl, e, j, _, rfl, u2, fun h => ⟨by have := u3 h; omega, rfl, rfl, List.nodup_nil, fun h => (by cases h), fun _ => hereP_get c2, fun h => (by cases h), Nat.zero_le _⟩⟩
    | false =>
    rw [cond_false, here_eq b i _ hle, Option.bind_some]
    cases c3 : hereP b i [60, 33, 68, 79, 67, 84, 89, 80, 69] with
    | true => exact ⟨_, rfl, 25, i, _, rfl, hle, fun h => (by cases h)⟩
    | false =>
    rw [cond_false, here_eq b i _ hle, Option.bind_some]
    cases c4 : hereP b i [60, 33] with
    | true => exact ⟨_, rfl, 23, i, _, rfl, hle, fun h => (by cases h)⟩
    | false =>
    rw [cond_false, here_eq b i _ hle, Option.bind_some]
    cases c5 : hereP b i [60, 63] with
    | true =>
      have hl := hereP_len c5 hle
      obtain ⟨x, h1, h2⟩ := instr_sp b i ⟨(0 : Int), (i : Int), [], [], [], 0⟩ (by simpa using hl) hb' (hereP_get c5) rfl rfl
      rw [cond_true, h1, Option.bind_some]
      exact ⟨_, rfl, h2⟩
    | false =>
    rw [cond_false, here_eq b i _ hle, Option.bind_some]
    cases c6 : hereP b i [60, 47] with
    | true =>
      have hl := hereP_len c6 hle
      obtain ⟨x, h1, h2⟩ := closing_sp b i ⟨(0 : Int), (i : Int), [], [], [], 0⟩ (by simpa using hl) hb' (hereP_get c6) rfl rfl
      rw [cond_true, h1, Option.bind_some]
      exact ⟨_, rfl, h2⟩
    | false =>
    rw [cond_false, here_eq b i _ hle, Option.bind_some]
    cases c7 : hereP b i [60] with
    | true =>
      obtain ⟨x, h1, h2⟩ := tag_sp b i ⟨(0 : Int), (i : Int), [], [], [], 0⟩ hi hb (hereP_get c7) rfl rfl
      rw [cond_true, h1, Option.bind_some]
      exact ⟨_, rfl, h2⟩
    | false =>
      obtain ⟨x, h1, h2⟩ := text_sp b i ⟨(0 : Int), (i : Int), [], [], [], 0⟩ hi hb' c7 rfl rfl rfl
      rw [cond_false, h1, Option.bind_some]
      exact ⟨_, rfl, h2⟩
  unfold F_scan_scanner_token
  simp only [letJ]
  by_cases h0 : i = 0
  · subst h0
    rw [show (((0 : Nat) : Int) == (0 : Int)) = true from rfl, cond_true, here_eq b 0 _ hle, Option.bind_some]
    cases c0 : hereP b 0 [60, 63, 120, 109, 108] with
    | false => rw [cond_false, cond_false]; exact rest
    | true =>
      have hl := hereP_len c0 hle
      have h5 : 5 ≤ b.length := by simpa using hl
      rw [cond_true, show (5 : Int) = ((5 : Nat) : Int) from rfl, spaces_eq b _ 5 h5 hb', Option.bind_some]
      cases decide (((5 : Nat) : Int) < ((sk wsP b 5 : Nat) : Int)) with
      | false => rw [cond_false]; exact rest
      | true =>
        obtain ⟨x, h1, h2⟩ := decl_sp b ⟨(0 : Int), ((0 : Nat) : Int), [], [], [], 0⟩ h5 hb' (hereP_get c0) rfl rfl rfl
        rw [cond_true, show (((0 : Nat) : Int)) = (0 : Int) from rfl] at *
        rw [h1, Option.bind_some]
        exact ⟨_, rfl, h2⟩
  · rw [show ((i : Int) == (0 : Int)) = false by rw [beq_eq_false_iff_ne]; omega, cond_false, cond_false]
    exact rest
end Go.Proofs.YtfokkdofcekdbaaDoor
