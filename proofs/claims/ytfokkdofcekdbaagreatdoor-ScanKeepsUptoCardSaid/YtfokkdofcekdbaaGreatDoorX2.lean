/- ScanReads: names and quoted values are read alike. No condition. -/
import Derived.Test.YtfokkdofcekdbaaGreatDoorX1
set_option linter.unusedSimpArgs false
set_option linter.unusedVariables false
set_option maxRecDepth 20000
namespace Go.Proofs.YtfokkdofcekdbaaGreatDoor
open Go.Lib (decodeL decodeN)
theorem okN_no58 (l : List UInt8) : ∀ n j, l.length ≤ j + n → okN l n j = true → ∀ k, j ≤ k → l[k]? ≠ some 58
 | 0, j, h, _, k, hk => by rw [List.getElem?_eq_none (by omega)]; simp
 | n + 1, j, h, hok, k, hk => by
  by_cases hj : j < l.length
  ·obtain ⟨d1, d2, d3, d4⟩ := dec_bytes l j hj
   simp only [okN, if_pos hj, Bool.and_eq_true, Bool.not_eq_true'] at hok
   by_cases hkw : j + (decodeL (l.drop j)).2 ≤ k
   ·exact okN_no58 l n _ (by omega) hok.2.2.2 k hkw
   ·intro hc
    obtain ⟨hkl, hg⟩ := List.getElem?_eq_some_iff.1 hc
    by_cases he : k = j
    ·subst he
     have := (rune_lo l k hkl 58 (by decide)).2 hg
     rw [this] at hok
     exact absurd hok.2.1 (by decide)
    ·have h4 := d4 (k - j) (by omega) (by omega)
     rw [show j + (k - j) = k by omega, show l.getD k 0 = l[k] by simp [List.getD, hkl], hg] at h4
     exact absurd h4 (by decide)
  ·intro hc
   have := (List.getElem?_eq_some_iff.1 hc).1
   omega
theorem nameP_no58 {l : List UInt8} (h : nameP l = true) : (58 : UInt8) ∉ l := by
 unfold nameP at h
 rw [Bool.and_eq_true] at h
 intro hm
 obtain ⟨k, hk⟩ := List.mem_iff_getElem?.1 hm
 exact okN_no58 l l.length 0 (by omega) h.2 k (Nat.zero_le _) hk
theorem take_mem {l : List UInt8} {c k : Nat} {x : UInt8} (h : l[c]? = some x) (hk : c < k) : x ∈ l.take k := by
 refine List.mem_of_getElem? (i := c) ?_
 rw [List.getElem?_take_of_lt hk]; exact h
theorem spl_step (x : List UInt8) (k : Nat) (hk : k < x.length) (hx : x.length ≤ 1073741824) (rec) :
  F_lecternref01_Split_l0 x rec (k : Int) = cond ((x[k] == 58) && (nameP (x.take k) && nameP (x.drop (k + 1)))) (some (.inr (x.take k, x.drop (k + 1), true))) (rec ((k + 1 : Nat) : Int)) := by
 unfold F_lecternref01_Split_l0
 simp only [letJ]
 rw [decide_eq_true (show (k : Int) < (x.length : Int) by omega), cond_true, idx_some hk, Option.bind_some, w64 (x := (k : Int) + 1) (by omega) (by omega), show (k : Int) + 1 = ((k + 1 : Nat) : Int) by omega, slc_take0 (Nat.le_of_lt hk), slc_drop hk]
 simp only [Option.bind_some, F_name1]
 rw [show (58 : Int) = ((58 : Nat) : Int) from rfl, byte_is _ 58 (by decide)]
 show cond (x[k] == 58) _ _ = _
 cases x[k] == 58 with
 | false => rfl
 | true => cases nameP (x.take k) with
  | false => rfl
  | true => cases nameP (x.drop (k + 1)) <;> rfl
theorem spl_loop (x : List UInt8) (hx : x.length ≤ 1073741824) : iter (F_lecternref01_Split_l0 x) FUEL (0 : Int) =
  some (if 0 ≤ Lib.indexByte x 58 ∧ (nameP (x.take (Lib.indexByte x 58).toNat) && nameP (x.drop ((Lib.indexByte x 58).toNat + 1))) = true then .inr (x.take (Lib.indexByte x 58).toNat, x.drop ((Lib.indexByte x 58).toNat + 1), true) else .inl ()) := by
 have hend : ∀ rec, F_lecternref01_Split_l0 x rec (x.length : Int) = some (.inl ()) := fun rec => by
  unfold F_lecternref01_Split_l0
  rw [decide_eq_false (by omega), cond_false]
 by_cases hn : Lib.indexByte x 58 < 0
 ·have hno := Lib.indexByte_none (l := x) (c := 58) (by have := Lib.indexByte_ge x 58; omega)
  rw [if_neg (fun h => by omega)]
  obtain ⟨o, h, ho⟩ := iter_dec (b := F_lecternref01_Split_l0 x) (fun y => x.length - y.toNat) (fun y => ∃ k : Nat, y = (k : Int) ∧ k ≤ x.length) (fun o => o = .inl ()) (by
   rintro _ ⟨k, rfl, g⟩
   by_cases hk : k < x.length
   ·refine .inl ⟨((k + 1 : Nat) : Int), fun rec => ?_, ⟨_, rfl, by omega⟩, by rw [Int.toNat_natCast, Int.toNat_natCast]; omega⟩
    have : (x[k] == 58) = false := by
     rw [beq_eq_false_iff_ne]; intro h; exact hno k (by rw [List.getElem?_eq_getElem hk, h])
    rw [spl_step x k hk hx, this, Bool.false_and, cond_false]
   ·have : k = x.length := by omega
    subst this
    exact .inr ⟨_, hend, rfl⟩) FUEL (0 : Int) ⟨0, rfl, Nat.zero_le _⟩ (by unfold FUEL; omega)
  rw [h, ho]
 ·obtain ⟨c, e1, e2⟩ := ixB_nat _ _ hn
  obtain ⟨g1, g2⟩ := Lib.indexByte_some e1
  rw [e1, Int.toNat_natCast]
  cases hP : nameP (x.take c) && nameP (x.drop (c + 1)) with
  | true =>
   rw [if_pos ⟨by omega, rfl⟩]
   obtain ⟨o, h, ho⟩ := iter_dec (b := F_lecternref01_Split_l0 x) (fun y => x.length - y.toNat) (fun y => ∃ k : Nat, y = (k : Int) ∧ k ≤ c) (fun o => o = .inr (x.take c, x.drop (c + 1), true)) (by
    rintro _ ⟨k, rfl, g⟩
    by_cases hk : k = c
    ·subst hk
     have : (x[k] == 58) = true := by
      rw [List.getElem?_eq_getElem e2] at g1; simpa using g1
     exact .inr ⟨_, fun rec => by rw [spl_step x k e2 hx, this, hP, Bool.true_and, cond_true], rfl⟩
    ·refine .inl ⟨((k + 1 : Nat) : Int), fun rec => ?_, ⟨_, rfl, by omega⟩, by rw [Int.toNat_natCast, Int.toNat_natCast]; omega⟩
     have hkl : k < x.length := by omega
     have : (x[k] == 58) = false := by
      rw [beq_eq_false_iff_ne]; intro h; exact g2 k (by omega) (by rw [List.getElem?_eq_getElem hkl, h])
     rw [spl_step x k hkl hx, this, Bool.false_and, cond_false]) FUEL (0 : Int) ⟨0, rfl, Nat.zero_le _⟩ (by unfold FUEL; omega)
   rw [h, ho]
  | false =>
   rw [if_neg (fun h => by cases h.2)]
   obtain ⟨o, h, ho⟩ := iter_dec (b := F_lecternref01_Split_l0 x) (fun y => x.length - y.toNat) (fun y => ∃ k : Nat, y = (k : Int) ∧ k ≤ x.length) (fun o => o = .inl ()) (by
    rintro _ ⟨k, rfl, g⟩
    by_cases hk : k < x.length
    ·refine .inl ⟨((k + 1 : Nat) : Int), fun rec => ?_, ⟨_, rfl, by omega⟩, by rw [Int.toNat_natCast, Int.toNat_natCast]; omega⟩
     rw [spl_step x k hk hx]
     rcases Nat.lt_trichotomy k c with hc | hc | hc
     ·have : (x[k] == 58) = false := by
       rw [beq_eq_false_iff_ne]; intro h; exact g2 k hc (by rw [List.getElem?_eq_getElem hk, h])
      rw [this, Bool.false_and, cond_false]
     ·subst hc
      rw [hP, Bool.and_false, cond_false]
     ·have : nameP (x.take k) = false := by
       cases hh : nameP (x.take k) with
       | false => rfl
       | true => exact absurd (take_mem g1 hc) (nameP_no58 hh)
      rw [this, Bool.false_and, Bool.and_false, cond_false]
    ·have : k = x.length := by omega
     subst this
     exact .inr ⟨_, hend, rfl⟩) FUEL (0 : Int) ⟨0, rfl, Nat.zero_le _⟩ (by unfold FUEL; omega)
   rw [h, ho]
theorem split_two (x : List UInt8) (hx : x.length ≤ 1073741824) : ∃ r q, F_char_Split x = some r ∧ F_lecternref01_Split x = some q ∧ r.2.2 = q.2.2 := by
 unfold F_char_Split F_lecternref01_Split L_Cut Lib.cut
 rw [if_pos (by omega), Option.bind_some, F_name1, Option.bind_some]
 simp only [letJ, F_nameC, Option.bind_some]
 rw [index_one, spl_loop x hx, Option.bind_some]
 by_cases hn : 0 ≤ Lib.indexByte x 58
 ·obtain ⟨c, e1⟩ : ∃ c : Nat, Lib.indexByte x 58 = (c : Int) := ⟨(Lib.indexByte x 58).toNat, by omega⟩
  obtain ⟨g1, g2⟩ := Lib.indexByte_some e1
  have hno : nameP x = false := by
   cases hh : nameP x with
   | false => rfl
   | true => exact absurd (List.mem_of_getElem? g1) (nameP_no58 hh)
  rw [if_pos hn, hno, e1, Int.toNat_natCast]
  simp only [Bool.not_true, cond_false, cond_true, List.length_cons, List.length_nil, Nat.zero_add]
  cases nameP (x.take c) with
  | false => rw [if_neg (fun h => by cases h.2)]; exact ⟨_, _, rfl, rfl, rfl⟩
  | true => cases nameP (x.drop (c + 1)) with
   | false => rw [if_neg (fun h => by cases h.2)]; exact ⟨_, _, rfl, rfl, rfl⟩
   | true => rw [if_pos ⟨by omega, rfl⟩]; exact ⟨_, _, rfl, rfl, rfl⟩
 ·rw [if_neg hn, if_neg (fun h => hn h.1)]
  cases nameP x <;> exact ⟨_, _, rfl, rfl, rfl⟩
theorem okT_at {U : List UInt8} {k : Nat} {c : UInt8} (h : OkT U) (hk : U[k]? = some c) (hc : c.toNat < 128) : OkT (U.drop k) ∧ OkT (U.drop (k + 1)) := by
 obtain ⟨hl, hg⟩ := List.getElem?_eq_some_iff.1 hk
 have hd : U.drop k = c :: U.drop (k + 1) := by rw [List.drop_eq_getElem_cons hl, hg]
 have := (okT_split hc h (U.take k) (by rw [← hd, List.take_append_drop])).2
 exact ⟨by rw [hd]; exact this, okT_tail hc this⟩
theorem dec4 {l : List UInt8} (hl : l ≠ []) (h : badR (decodeL l) = false) : decodeL (l.take 4) = decodeL l := by
 have hw : (decodeL l).2 ≤ 4 := by
  rw [Lib.decodeL_N]
  exact (decN_facts _ _ _ _ _).2.2.2.2
 have h1 := dec_take hl h
 have hne : l.take (decodeL l).2 ≠ [] := by
  have := dec_pos hl
  intro e
  have := congrArg List.length e
  rw [List.length_take, List.length_nil] at this; omega
 have h2 := dec_app (y := (l.take 4).drop (decodeL l).2) hne (by rw [h1]; exact h)
 have h3 : l.take (decodeL l).2 ++ (l.take 4).drop (decodeL l).2 = l.take 4 := by
  have := List.take_append_drop (decodeL l).2 (l.take 4)
  rwa [List.take_take, Nat.min_eq_left hw] at this
 rw [h3, h1] at h2
 exact h2
theorem written_step (b : List UInt8) (i k : Nat) (hk : k < b.length) (hb : b.length ≤ 1073741824) (hok : OkT (b.drop k)) (rec) :
  F_lecternref03_written_l0 b (i : Int) rec (k : Int) = if ((decodeL (b.drop k)).1 : Int) ≠ 58 ∧ partP ((decodeL (b.drop k)).1 : Int) = false then some (.inl (k : Int)) else if stopN i k ((decodeL (b.drop k)).1 : Int) = true then some (.inr ([], 0, 23)) else rec ((k + (decodeL (b.drop k)).2 : Nat) : Int) := by
 have hne : b.drop k ≠ [] := drop_nn hk
 obtain ⟨q1, q2, q3⟩ := okT_inv hok hne
 obtain ⟨d1, d2, _⟩ := dec_bytes b k hk
 unfold F_lecternref03_written_l0
 simp only [letJ]
 rw [decide_eq_true (show (k : Int) < (b.length : Int) by omega), cond_true, w64 (x := (k : Int) + 4) (by omega) (by omega)]
 have hsl : slc b (k : Int) (if (k : Int) + 4 < (b.length : Int) then (k : Int) + 4 else (b.length : Int)) = some ((b.drop k).take 4) := by
  split
  ·rw [show (k : Int) + 4 = ((k + 4 : Nat) : Int) by omega, slc_seg (by omega) (by omega), show k + 4 - k = 4 by omega]
  ·rw [slc_drop (Nat.le_of_lt hk), List.take_of_length_le (by rw [List.length_drop]; omega)]
 have h4l : 0 < ((b.drop k).take 4).length := by rw [List.length_take, List.length_drop]; omega
 have h4m : ((b.drop k).take 4).length ≤ 1073741824 := by rw [List.length_take, List.length_drop]; omega
 rw [hsl, Option.bind_some, show (0 : Int) = ((0 : Nat) : Int) from rfl, F_read1 _ 0 h4l h4m, List.drop_zero, dec4 hne q1, q1, Option.bind_some]
 simp only [Bool.false_eq_true, if_false, F_part1, F_start1, Option.bind_some]
 have hz : (((decodeL (b.drop k)).2 : Int) == ((0 : Nat) : Int)) = false := by rw [beq_eq_false_iff_ne]; omega
 have hgo : IntKind.wrap .i64 ((k : Int) + ((decodeL (b.drop k)).2 : Int)) = ((k + (decodeL (b.drop k)).2 : Nat) : Int) := by rw [w64 (by omega) (by omega)]; omega
 rw [hz, cond_false, hgo]
 unfold stopN
 by_cases h58 : ((decodeL (b.drop k)).1 : Int) = 58
 ·have e : (((decodeL (b.drop k)).1 : Int) != 58) = false := by simpa using h58
  rw [e, if_neg (fun h => h.1 h58), Bool.false_and, if_neg (by simp), Bool.and_false]; rfl
 ·have e : (((decodeL (b.drop k)).1 : Int) != 58) = true := by simpa using h58
  rw [e, Bool.true_and, Bool.and_true]
  cases partP ((decodeL (b.drop k)).1 : Int) with
  | false => rw [if_pos ⟨h58, rfl⟩]; rfl
  | true =>
   rw [if_neg (fun h => by cases h.2)]
   cases ((k : Int) == (i : Int)) with
   | false => rfl
   | true => cases startP ((decodeL (b.drop k)).1 : Int) <;> rfl
theorem written_iter (b : List UInt8) (i : Nat) (hi : i ≤ b.length) (hb : b.length ≤ 1073741824) (hok : OkT (b.drop i)) : ∃ (o : Int) (q : Int ⊕ ((List UInt8) × Int × Int)), iter (F_scan_scanner_name_l0 ⟨b, (i : Int)⟩) FUEL (i : Int) = some o ∧ iter (F_lecternref03_written_l0 b (i : Int)) FUEL (i : Int) = some q ∧
  ∃ j : Nat, o = (j : Int) ∧ i ≤ j ∧ j ≤ b.length ∧ OkT (b.drop j) ∧ (q = .inl (j : Int) ∨ (q = .inr ([], 0, 23) ∧ j = i)) := by
 refine iter_two (b := F_scan_scanner_name_l0 ⟨b, (i : Int)⟩) (c := F_lecternref03_written_l0 b (i : Int)) (fun x => b.length - x.toNat) (fun x y => ∃ k : Nat, x = (k : Int) ∧ y = (k : Int) ∧ i ≤ k ∧ k ≤ b.length ∧ OkT (b.drop k)) _ ?_ FUEL FUEL (i : Int) (i : Int) ⟨i, rfl, rfl, Nat.le_refl _, hi, hok⟩ (by unfold FUEL; omega) (by unfold FUEL; omega)
 rintro _ _ ⟨k, rfl, rfl, g1, g2, g3⟩
 by_cases hk : k < b.length
 ·obtain ⟨d1, d2, _⟩ := dec_bytes b k hk
  have q3 := (okT_inv g3 (drop_nn hk)).2.2
  rw [List.drop_drop] at q3
  cases hs : stopN i k ((decodeL (b.drop k)).1 : Int) with
  | false =>
   refine .inl ⟨_, ((k + (decodeL (b.drop k)).2 : Nat) : Int), fun rec => by rw [name_step b i k hk hb, hs, cond_false], fun rec => ?_, ⟨_, rfl, rfl, by omega, d2, q3⟩, by rw [Int.toNat_natCast, Int.toNat_natCast]; omega⟩
   rw [written_step b i k hk hb g3, hs, if_neg, if_neg (by simp)]
   rintro ⟨h1, h2⟩
   unfold stopN at hs
   rw [h2, show (((decodeL (b.drop k)).1 : Int) != 58) = true by simpa using h1] at hs
   cases hs
  | true =>
   by_cases hp : ((decodeL (b.drop k)).1 : Int) ≠ 58 ∧ partP ((decodeL (b.drop k)).1 : Int) = false
   ·exact .inr ⟨_, _, fun rec => by rw [name_step b i k hk hb, hs, cond_true], fun rec => by rw [written_step b i k hk hb g3, if_pos hp], k, rfl, g1, g2, g3, .inl rfl⟩
   ·refine .inr ⟨_, _, fun rec => by rw [name_step b i k hk hb, hs, cond_true], fun rec => by rw [written_step b i k hk hb g3, if_neg hp, hs, if_pos rfl], k, rfl, g1, g2, g3, .inr ⟨rfl, ?_⟩⟩
    unfold stopN at hs
    simp only [Bool.and_eq_true, bne_iff_ne, Bool.or_eq_true, Bool.not_eq_true', beq_iff_eq] at hs
    obtain ⟨h1, h2 | h2⟩ := hs
    ·exact absurd ⟨h1, h2⟩ hp
    ·omega
 ·have : k = b.length := by omega
  subst this
  exact .inr ⟨_, .inl (b.length : Int), fun rec => name_end b i rec, fun rec => by
   unfold F_lecternref03_written_l0
   rw [decide_eq_false (by omega), cond_false], _, rfl, g1, g2, g3, .inl rfl⟩
theorem written_two (b : List UInt8) (i : Nat) (hi : i ≤ b.length) (hb : b.length ≤ 1073741824) (hok : OkT (b.drop i)) : ∃ (v : List UInt8) (e : Int) (j : Nat), F_scan_scanner_name ⟨b, (i : Int)⟩ = some ((v, e), ⟨b, (j : Int)⟩) ∧
  F_lecternref03_written b (i : Int) = some (if e = 0 then (v, (j : Int), 0) else ([], 0, e)) ∧ i ≤ j ∧ j ≤ b.length ∧ (e = 0 → i < j ∧ v = (b.drop i).take (j - i) ∧ OkT (b.drop j)) := by
 obtain ⟨o, q, h1, h2, j, rfl, g1, g2, g3, g4⟩ := written_iter b i hi hb hok
 rw [name_eq b i j h1 g1 g2]
 unfold F_lecternref03_written
 simp only [letJ]
 rw [h2, Option.bind_some]
 have hlen : ((b.drop i).take (j - i)).length = j - i := by rw [List.length_take, List.length_drop]; omega
 rcases g4 with rfl | ⟨rfl, rfl⟩
 ·dsimp only
  by_cases hji : j = i
  ·subst hji
   rw [Nat.sub_self, List.take_zero, show ((j : Int) == (j : Int)) = true by simp, cond_true]
   exact ⟨_, _, j, rfl, rfl, Nat.le_refl _, hi, fun h => by cases h⟩
  ·have hne : (b.drop i).take (j - i) ≠ [] := fun h => by rw [h, List.length_nil] at hlen; omega
   obtain ⟨r, s, e1, e2, e3⟩ := split_two ((b.drop i).take (j - i)) (by rw [hlen]; omega)
   rw [ne_nil_beq hne, cond_false, e1, Option.bind_some, show ((j : Int) == (i : Int)) = false by rw [beq_eq_false_iff_ne]; omega, cond_false, slc_seg g1 g2, Option.bind_some, e2, Option.bind_some, ← e3, Option.bind_some]
   cases r.2.2 with
   | false => exact ⟨_, _, i, rfl, rfl, Nat.le_refl _, hi, fun h => by cases h⟩
   | true => exact ⟨_, _, j, rfl, rfl, g1, g2, fun _ => ⟨by omega, rfl, g3⟩⟩
 ·rw [Nat.sub_self, List.take_zero]
  exact ⟨_, _, j, rfl, rfl, Nat.le_refl _, hi, fun h => by cases h⟩
theorem value_two (b : List UInt8) (i : Nat) (hi : i ≤ b.length) (hb : b.length ≤ 1073741824) : F_lecternref03_value b (i : Int) =
  some (if hereP b (sk wsP b i) [61] = true then (if (quo b (sk wsP b (sk wsP b i + 1))).1.2 = 0 then ((quo b (sk wsP b (sk wsP b i + 1))).1.1, (quo b (sk wsP b (sk wsP b i + 1))).2.at_) else ([], -1)) else ([], -1)) := by
 obtain ⟨s1, s2⟩ := sk_le wsP b i hi
 unfold F_lecternref03_value
 rw [white_at b i hi hb, Option.bind_some, stands_at b _ _ s2 hb (by decide), Option.bind_some]
 cases h61 : hereP b (sk wsP b i) [61] with
 | false => rfl
 | true =>
  have hl := hereP_len h61 s2
  simp only [List.length_cons, List.length_nil, Nat.zero_add] at hl
  obtain ⟨t1, t2⟩ := sk_le wsP b (sk wsP b i + 1) hl
  rw [Bool.not_true, cond_false, if_pos rfl, w64 (by omega) (by omega), show ((sk wsP b i : Nat) : Int) + 1 = ((sk wsP b i + 1 : Nat) : Int) by omega, white_at b _ hl hb, Option.bind_some]
  generalize sk wsP b (sk wsP b i + 1) = k at *
  rw [stands_at b _ _ t2 hb (by decide), stands_at b _ _ t2 hb (by decide), Option.bind_some]
  simp only [letJ, Option.bind_some]
  have main : k < b.length → (hereP b k [39] = true ∨ hereP b k [34] = true) → ((slc b (k : Int) (IntKind.wrap .i64 ((k : Int) + (1 : Int)))).bind fun x11 =>
    (F_lecternref03_Find b (IntKind.wrap .i64 ((k : Int) + (1 : Int))) x11).bind fun x12 =>
   cond (decide (x12 < (0 : Int)))
    (some (([] : List UInt8), (-1 : Int)))
    ((slc b (IntKind.wrap .i64 ((k : Int) + (1 : Int))) x12).bind fun x14 =>
    some (x14, (IntKind.wrap .i64 (x12 + (1 : Int)))))) = some (if (quo b k).1.2 = 0 then ((quo b k).1.1, (quo b k).2.at_) else ([], -1)) := by
   intro hk hq
   have hg : b.getD k 0 = b[k] := by simp [List.getD, hk]
   rw [w64 (x := (k : Int) + 1) (by omega) (by omega), show (k : Int) + 1 = ((k + 1 : Nat) : Int) by omega, slc_seg (Nat.le_succ k) hk, Option.bind_some, show (b.drop k).take (k + 1 - k) = [b[k]] by rw [show k + 1 - k = 1 by omega, List.drop_eq_getElem_cons hk]; rfl, find_at b (k + 1) _ hk hb (by simp) (by simp), Option.bind_some, index_one]
   by_cases hn : Lib.indexByte (b.drop (k + 1)) b[k] < 0
   ·have eq : quo b k = (([], 23), ⟨b, (k : Int)⟩) := by unfold quo; rw [hg, if_neg (fun h => by omega)]
    rw [if_pos hn, eq]; rfl
   ·obtain ⟨n, e1, e2⟩ := ixB_nat _ _ hn
    have eq : quo b k = (((b.drop (k + 1)).take n, 0), ⟨b, ((k + (n + 2) : Nat) : Int)⟩) := by unfold quo; rw [hg, e1, Int.toNat_natCast, if_pos ⟨hq, by omega⟩]
    rw [List.length_drop] at e2
    rw [if_neg hn, e1, eq, decide_eq_false (by omega), cond_false, show ((k + 1 : Nat) : Int) + (n : Int) = ((k + 1 + n : Nat) : Int) by omega, slc_seg (by omega) (by omega), Option.bind_some, show k + 1 + n - (k + 1) = n by omega, w64 (by omega) (by omega)]
    simp only [if_true]
    congr 2; omega
  cases h1 : hereP b k [39] with
  | true =>
   have := hereP_len h1 t2
   rw [Bool.not_true, cond_false, cond_false]
   exact main (by simp at this; omega) (.inl h1)
  | false =>
   rw [Bool.not_false, cond_true]
   cases h2 : hereP b k [34] with
   | true =>
    have := hereP_len h2 t2
    rw [Bool.not_true, cond_false]
    exact main (by simp at this; omega) (.inr h2)
   | false =>
    rw [Bool.not_false, cond_true]
    have eq : quo b k = (([], 23), ⟨b, (k : Int)⟩) := by unfold quo; rw [if_neg (fun h => by rw [h1, h2] at h; simp at h)]
    rw [eq]; rfl
end Go.Proofs.YtfokkdofcekdbaaGreatDoor

set_option linter.unusedSimpArgs false
set_option linter.unusedVariables false
set_option maxRecDepth 20000
namespace Go.Proofs.YtfokkdofcekdbaaGreatDoor
open Go.Lib (decodeL decodeN)
def lowB (c : UInt8) : UInt8 := if 65 ≤ c.toNat ∧ c.toNat ≤ 90 then c + 32 else c
theorem low_step (l : List UInt8) (k : Nat) (hk : k < l.length) (hl : l.length ≤ 1073741824) (rec) : F_lecternref03_small_l0 rec (l, (k : Int)) = rec (l.set k (lowB l[k]), ((k + 1 : Nat) : Int)) := by
 unfold F_lecternref03_small_l0
 simp only [letJ]
 rw [decide_eq_true (show (k : Int) < (l.length : Int) by omega), cond_true, idx_some hk, w64 (x := (k : Int) + 1) (by omega) (by omega)]
 simp only [Option.bind_some, Int.toNat_natCast]
 unfold lowB
 by_cases h : 65 ≤ l[k].toNat ∧ l[k].toNat ≤ 90
 ·have h2 : u8 (IntKind.wrap .u8 ((l[k].toNat : Int) + (32 : Int))) = some (l[k] + 32) := by
   have := all_u8 (p := fun c => !(decide (65 ≤ c.toNat ∧ c.toNat ≤ 90)) || (u8 (IntKind.wrap .u8 ((c.toNat : Int) + (32 : Int))) == some (c + 32))) (by decide +kernel) l[k]
   rw [decide_eq_true h] at this
   simpa using this
  rw [decide_eq_true (by omega), cond_true, decide_eq_true (by omega), cond_true, h2, Option.bind_some, if_pos h]; rfl
 ·rw [if_neg h, List.set_getElem_self]
  by_cases h3 : (65 : Int) ≤ (l[k].toNat : Int)
  ·rw [decide_eq_true h3, cond_true, decide_eq_false (by omega), cond_false]; rfl
  ·rw [decide_eq_false h3, cond_false, cond_false]; rfl
theorem low_loop : ∀ (n k : Nat) (l : List UInt8), l.length ≤ 1073741824 → k ≤ l.length → l.length - k < n → iter F_lecternref03_small_l0 n (l, (k : Int)) = some (l.take k ++ (l.drop k).map lowB)
 | 0, k, l, _, _, h => by omega
 | n + 1, k, l, hl, hk, h => by
  rw [iter_succ]
  by_cases hlt : k < l.length
  ·have hs : l.set k (lowB l[k]) = l.take k ++ lowB l[k] :: l.drop (k + 1) := by rw [List.set_eq_take_append_cons_drop, if_pos hlt]
   have hsl : (l.set k (lowB l[k])).length = l.length := List.length_set
   rw [low_step l k hlt hl, low_loop n (k + 1) _ (by omega) (by omega) (by omega), hs]
   have hkl : (l.take k ++ [lowB l[k]]).length = k + 1 := by rw [List.length_append, List.length_take]; simp; omega
   rw [show l.take k ++ lowB l[k] :: l.drop (k + 1) = (l.take k ++ [lowB l[k]]) ++ l.drop (k + 1) by simp, List.take_left' hkl, List.drop_left' hkl, List.drop_eq_getElem_cons hlt, List.map_cons, List.append_assoc]
   rfl
  ·have : k = l.length := by omega
   subst this
   unfold F_lecternref03_small_l0
   dsimp only
   rw [decide_eq_false (by omega), cond_false]
   simp
theorem small_eq (p : List UInt8) (hp : p.length ≤ 1073741824) : F_lecternref03_small p = some (p.map lowB) := by
 unfold F_lecternref03_small
 simp only [letJ]
 rw [show (0 : Int) = ((0 : Nat) : Int) from rfl, low_loop FUEL 0 p hp (Nat.zero_le _) (by unfold FUEL; omega), Option.bind_some]
 simp
theorem low_cmp (a c : Nat) (ha : a < 128) (hc : c < 128) (hcu : ¬ (65 ≤ c ∧ c ≤ 90)) (hne : (c : Int) ≠ (a : Int)) :
  (cond (decide ((c : Int) < (a : Int))) (((decide ((65 : Int) ≤ (c : Int))) && (decide ((c : Int) ≤ (90 : Int)))) && ((a : Int) == (IntKind.wrap .u8 ((IntKind.wrap .u8 ((c : Int) + (97 : Int))) - (65 : Int))))) (((decide ((65 : Int) ≤ (a : Int))) && (decide ((a : Int) ≤ (90 : Int)))) && ((c : Int) == (IntKind.wrap .u8 ((IntKind.wrap .u8 ((a : Int) + (97 : Int))) - (65 : Int)))))) = decide ((if 65 ≤ a ∧ a ≤ 90 then a + 32 else a) = c) := by
 by_cases h1 : (c : Int) < (a : Int)
 ·rw [decide_eq_true h1, cond_true]
  have e : ((decide ((65 : Int) ≤ (c : Int))) && (decide ((c : Int) ≤ (90 : Int)))) = false := by
   rw [Bool.eq_false_iff]; intro h; rw [Bool.and_eq_true, decide_eq_true_eq, decide_eq_true_eq] at h; omega
  rw [e, Bool.false_and]
  symm
  apply decide_eq_false
  split <;> omega
 ·rw [decide_eq_false h1, cond_false]
  by_cases h2 : 65 ≤ a ∧ a ≤ 90
  ·rw [decide_eq_true (show (65 : Int) ≤ (a : Int) by omega), decide_eq_true (show (a : Int) ≤ 90 by omega), if_pos h2, Bool.true_and, Bool.true_and]
   have e : IntKind.wrap .u8 ((IntKind.wrap .u8 ((a : Int) + (97 : Int))) - (65 : Int)) = (a : Int) + 32 := by
    rw [IntKind.wrap_u8, IntKind.wrap_u8]; omega
   rw [e, Bool.eq_iff_iff, beq_iff_eq, decide_eq_true_eq]; omega
  ·have e : ((decide ((65 : Int) ≤ (a : Int))) && (decide ((a : Int) ≤ (90 : Int)))) = false := by
    rw [Bool.eq_false_iff]; intro h; rw [Bool.and_eq_true, decide_eq_true_eq, decide_eq_true_eq] at h; omega
   rw [e, Bool.false_and, if_neg h2]
   symm
   apply decide_eq_false; omega
theorem low_nat (c : UInt8) : (lowB c).toNat = if 65 ≤ c.toNat ∧ c.toNat ≤ 90 then c.toNat + 32 else c.toNat := by
 have := all_u8 (p := fun c => (lowB c).toNat == if 65 ≤ c.toNat ∧ c.toNat ≤ 90 then c.toNat + 32 else c.toNat) (by decide +kernel) c
 simpa using this
def okS (v : List UInt8) : Prop := ∀ c ∈ v, c.toNat < 128 ∧ ¬ (65 ≤ c.toNat ∧ c.toNat ≤ 90)
theorem eqf_l2x (w v : List UInt8) (hw : w.length ≤ 1073741824) (hv : okS v) : ∃ o, iter (F_strings_EqualFold_l2 w v) FUEL (0 : Int) = some o ∧
  ((o = .inl () ∧ ∀ j (g0 : j < w.length) (g1 : j < v.length), lowB w[j] = v[j]) ∨ (o = .inr (.inr false) ∧ ∃ j, ∃ (g0 : j < w.length) (g1 : j < v.length), lowB w[j] ≠ v[j]) ∨
   (∃ i, ∃ (g0 : i < w.length) (g1 : i < v.length), o = .inr (.inl (i : Int)) ∧ 128 ≤ w[i].toNat)) := by
 refine iter_dec (b := F_strings_EqualFold_l2 w v) (fun x => w.length - x.toNat) (fun x => ∃ i : Nat, x = (i : Int) ∧ i ≤ w.length ∧ ∀ j (g0 : j < w.length) (g1 : j < v.length), j < i → lowB w[j] = v[j]) _ ?_ FUEL (0 : Int) ⟨0, rfl, Nat.zero_le _, fun j _ _ h => by omega⟩ (by unfold FUEL; omega)
 rintro _ ⟨i, rfl, hi, hI⟩
 by_cases hlt : i < w.length ∧ i < v.length
 ·obtain ⟨g0, g1⟩ := hlt
  have hmin : decide ((i : Int) < (if (v.length : Int) < (w.length : Int) then (v.length : Int) else (w.length : Int))) = true := by
   apply decide_eq_true; split <;> omega
  obtain ⟨v1, v2⟩ := hv v[i] (List.getElem_mem g1)
  have wlt := w[i].toNat_lt
  have hior : ior .u8 (w[i].toNat : Int) (v[i].toNat : Int) = ((w[i].toNat ||| v[i].toNat : Nat) : Int) := u8_or_nat _ _ (by omega) (by omega)
  have hb : ∀ rec, F_strings_EqualFold_l2 w v rec (i : Int) = cond (decide ((128 : Int) ≤ (ior .u8 (w[i].toNat : Int) (v[i].toNat : Int))))
    (some (.inr (.inl (i : Int)))) (cond ((v[i].toNat : Int) == (w[i].toNat : Int)) (rec ((i + 1 : Nat) : Int))
     (cond (decide ((v[i].toNat : Int) < (w[i].toNat : Int)))
      (cond (((decide ((65 : Int) ≤ (v[i].toNat : Int))) && (decide ((v[i].toNat : Int) ≤ (90 : Int)))) && ((w[i].toNat : Int) == (IntKind.wrap .u8 ((IntKind.wrap .u8 ((v[i].toNat : Int) + (97 : Int))) - (65 : Int))))) (rec ((i + 1 : Nat) : Int)) (some (.inr (.inr false))))
      (cond (((decide ((65 : Int) ≤ (w[i].toNat : Int))) && (decide ((w[i].toNat : Int) ≤ (90 : Int)))) && ((v[i].toNat : Int) == (IntKind.wrap .u8 ((IntKind.wrap .u8 ((w[i].toNat : Int) + (97 : Int))) - (65 : Int))))) (rec ((i + 1 : Nat) : Int)) (some (.inr (.inr false)))))) := by
   intro rec
   unfold F_strings_EqualFold_l2
   simp only [letJ]
   rw [hmin, cond_true, idx_some g0, Option.bind_some, idx_some g1, Option.bind_some, w64 (by omega) (by omega)]
   rfl
  by_cases h128 : 128 ≤ w[i].toNat
  ·have : (128 : Int) ≤ ior .u8 (w[i].toNat : Int) (v[i].toNat : Int) := by
    rw [hior]
    have := Nat.left_le_or (n := w[i].toNat) (m := v[i].toNat)
    omega
   exact .inr ⟨_, fun rec => by rw [hb, decide_eq_true this, cond_true], .inr (.inr ⟨i, g0, g1, rfl, h128⟩)⟩
  ·have : ¬ (128 : Int) ≤ ior .u8 (w[i].toNat : Int) (v[i].toNat : Int) := by
    rw [hior]
    have := Nat.or_lt_two_pow (n := 7) (show w[i].toNat < 2 ^ 7 by omega) (show v[i].toNat < 2 ^ 7 by omega)
    omega
   have hb2 : ∀ rec, F_strings_EqualFold_l2 w v rec (i : Int) = cond (decide (lowB w[i] = v[i])) (rec ((i + 1 : Nat) : Int)) (some (.inr (.inr false))) := by
    intro rec
    rw [hb, decide_eq_false this, cond_false]
    have hlow : (lowB w[i] = v[i]) ↔ (if 65 ≤ w[i].toNat ∧ w[i].toNat ≤ 90 then w[i].toNat + 32 else w[i].toNat) = v[i].toNat := by
     rw [← low_nat]; exact UInt8.toNat_inj.symm
    by_cases heq : (v[i].toNat : Int) = (w[i].toNat : Int)
    ·have hd : lowB w[i] = v[i] := by rw [hlow]; split <;> omega
     rw [show ((v[i].toNat : Int) == (w[i].toNat : Int)) = true by simpa using heq, cond_true, decide_eq_true hd, cond_true]
    ·rw [show ((v[i].toNat : Int) == (w[i].toNat : Int)) = false by simpa using heq, cond_false]
     have hc := low_cmp w[i].toNat v[i].toNat (by omega) v1 v2 heq
     have hd : decide (lowB w[i] = v[i]) = decide ((if 65 ≤ w[i].toNat ∧ w[i].toNat ≤ 90 then w[i].toNat + 32 else w[i].toNat) = v[i].toNat) := by rw [decide_eq_decide]; exact hlow
     rw [hd, ← hc]
     cases decide ((v[i].toNat : Int) < (w[i].toNat : Int)) <;> rfl
   by_cases hd : lowB w[i] = v[i]
   ·refine .inl ⟨((i + 1 : Nat) : Int), fun rec => by rw [hb2, decide_eq_true hd, cond_true], ⟨i + 1, rfl, g0, fun j a b h => ?_⟩, by rw [Int.toNat_natCast, Int.toNat_natCast]; omega⟩
    by_cases hji : j = i
    ·subst hji; exact hd
    ·exact hI j a b (by omega)
   ·exact .inr ⟨_, fun rec => by rw [hb2, decide_eq_false hd, cond_false], .inr (.inl ⟨rfl, i, g0, g1, hd⟩)⟩
 ·right
  have hmin : decide ((i : Int) < (if (v.length : Int) < (w.length : Int) then (v.length : Int) else (w.length : Int))) = false := by
   apply decide_eq_false; split <;> omega
  exact ⟨.inl (), fun rec => by unfold F_strings_EqualFold_l2; rw [hmin, cond_false], .inl ⟨rfl, fun j a b => hI j a b (by omega)⟩⟩
theorem low_differ {w v : List UInt8} {j : Nat} (g0 : j < w.length) (g1 : j < v.length) (h : lowB w[j] ≠ v[j]) : (w.map lowB == v) = false := by
 rw [beq_eq_false_iff_ne]
 intro he
 subst he
 exact h (by simp)
theorem low_same {w v : List UInt8} (h : ∀ j (g0 : j < w.length) (g1 : j < v.length), lowB w[j] = v[j]) : ((w.length : Int) == (v.length : Int)) = (w.map lowB == v) := by
 by_cases hl : w.length = v.length
 ·rw [show ((w.length : Int) == (v.length : Int)) = true by rw [beq_iff_eq]; omega]
  have : w.map lowB = v := List.ext_getElem (by simpa using hl) fun j a b => by
   rw [List.getElem_map]; exact h j (by simpa using a) b
  rw [this]; simp
 ·rw [show ((w.length : Int) == (v.length : Int)) = false by rw [beq_eq_false_iff_ne]; omega]
  symm
  rw [beq_eq_false_iff_ne]
  intro he
  subst he
  simp at hl
theorem eqf_hi (s : List UInt8) (hs : 0 < s.length) (h128 : 128 ≤ s[0].toNat) (c : UInt8) (t : List UInt8) (hc : (c.toNat : Int) = 120 ∨ (c.toNat : Int) = 109 ∨ (c.toNat : Int) = 108) (hd : L_DecodeRuneInString (c :: t) = some ((c.toNat : Int), 1)) : iter (F_strings_EqualFold_l0 s) FUEL (c :: t, (0 : Nat)) = some (.inr false) := by
 obtain ⟨r1, r2⟩ := dec_at s 0
 have hr : 128 ≤ rnS s 0 := by
  rw [r1, Lib.decodeL_N]
  have := decN_hi (n := (s.drop 0).length) (b0 := ((s.drop 0).getD 0 0).toNat) (b1 := ((s.drop 0).getD 1 0).toNat) (b2 := ((s.drop 0).getD 2 0).toNat) (b3 := ((s.drop 0).getD 3 0).toNat) (by
   rw [List.drop_zero, show s.getD 0 0 = s[0] by simp [List.getD, hs]]; exact h128)
  omega
 have hsl : slc (c :: t) (1 : Int) ((c :: t).length : Int) = some t := slc_tail (by simp)
 obtain ⟨m, hm⟩ : ∃ m, FUEL = m + 1 := ⟨FUEL - 1, by unfold FUEL; rfl⟩
 have hf : L_SimpleFold (c.toNat : Int) = some ((c.toNat : Int) - 32) := by rcases hc with h | h | h <;> rw [h] <;> rfl
 have hl1 := eqf_l1 _ (rnS s 0) hc hr
 have f1 : ((c.toNat : Int) == rnS s 0) = false := by rw [beq_eq_false_iff_ne]; omega
 have f2 : decide ((c.toNat : Int) < rnS s 0) = true := decide_eq_true (by omega)
 have f3 : decide (rnS s 0 < 128) = false := decide_eq_false (by omega)
 have f4 : decide ((c.toNat : Int) < rnS s 0) = true := decide_eq_true (by omega)
 have hb : ∀ rec, F_strings_EqualFold_l0 s rec (c :: t, 0) = some (.inr false) := by
  intro rec
  unfold F_strings_EqualFold_l0
  simp only [letJ]
  rw [decide_eq_true hs, cond_true, show (((c :: t).length : Int) == 0) = false by rw [beq_eq_false_iff_ne]; simp; omega, cond_false, hd, Option.bind_some]
  dsimp only
  rw [hsl, Option.bind_some, f1, cond_false, f2, cond_true, f3, cond_false, hf, Option.bind_some, hl1, Option.bind_some, f1, cond_false]
 rw [hm, iter_succ, hb]
theorem eqf_xmlV (w : List UInt8) (hw : w.length ≤ 1073741824) : F_strings_EqualFold w [120, 109, 108] = some (w.map lowB == [120, 109, 108]) := by
 obtain ⟨o, e1, e2⟩ := eqf_l2x w [120, 109, 108] hw (by unfold okS; decide)
 unfold F_strings_EqualFold
 simp only [letJ]
 rw [e1, Option.bind_some]
 rcases e2 with ⟨rfl, h⟩ | ⟨rfl, j, g0, g1, h⟩ | ⟨i, g0, g1, rfl, h⟩
 ·dsimp only
  rw [low_same h]
 ·rw [low_differ g0 g1 h]
 ·have hd : lowB w[i] ≠ ([120, 109, 108] : List UInt8)[i] := by
   intro he
   have h1 := congrArg UInt8.toNat he
   rw [low_nat, if_neg (by omega)] at h1
   have h2 : ([120, 109, 108] : List UInt8)[i].toNat < 128 := by
    have : ∀ c ∈ ([120, 109, 108] : List UInt8), c.toNat < 128 := by decide
    exact this _ (List.getElem_mem g1)
   omega
  rw [low_differ g0 g1 hd]
  dsimp only
  rw [slc_drop (Nat.le_of_lt g0), Option.bind_some, slc_drop (Nat.le_of_lt g1), Option.bind_some]
  have hs : 0 < (w.drop i).length := by rw [List.length_drop]; omega
  have hs2 : 128 ≤ (w.drop i)[0].toNat := by rw [List.getElem_drop]; simpa using h
  match i, g1, hs, hs2 with
  | 0, _, hs, hs2 => rw [show ([120, 109, 108] : List UInt8).drop 0 = 120 :: [109, 108] from rfl, eqf_hi _ hs hs2 120 _ (.inl rfl) rfl]; rfl
  | 1, _, hs, hs2 => rw [show ([120, 109, 108] : List UInt8).drop 1 = 109 :: [108] from rfl, eqf_hi _ hs hs2 109 _ (.inr (.inl rfl)) rfl]; rfl
  | 2, _, hs, hs2 => rw [show ([120, 109, 108] : List UInt8).drop 2 = 108 :: [] from rfl, eqf_hi _ hs hs2 108 _ (.inr (.inr rfl)) rfl]; rfl
theorem eqf_lo (w v : List UInt8) (hw : w.length ≤ 1073741824) (hv : okS v) (hlo : ∀ c ∈ w, c.toNat < 128) : F_strings_EqualFold w v = some (w.map lowB == v) := by
 obtain ⟨o, e1, e2⟩ := eqf_l2x w v hw hv
 unfold F_strings_EqualFold
 simp only [letJ]
 rw [e1, Option.bind_some]
 rcases e2 with ⟨rfl, h⟩ | ⟨rfl, j, g0, g1, h⟩ | ⟨i, g0, g1, rfl, h⟩
 ·dsimp only
  rw [low_same h]
 ·rw [low_differ g0 g1 h]
 ·have := hlo _ (List.getElem_mem g0)
  omega
theorem all_lp {b : (Int → Option (Unit ⊕ Bool)) → Int → Option (Unit ⊕ Bool)} (v : List UInt8) (P : UInt8 → Bool)
  (hs : ∀ (rec : Int → Option (Unit ⊕ Bool)) (k : Nat) (h : k < v.length), b rec (k : Int) = cond (P v[k]) (rec ((k + 1 : Nat) : Int)) (some (.inr false)))
  (he : ∀ rec : Int → Option (Unit ⊕ Bool), b rec (v.length : Int) = some (.inl ())) : ∀ (n k : Nat), k ≤ v.length → v.length - k < n → iter b n (k : Int) = some (if (v.drop k).all P = true then .inl () else .inr false)
 | 0, k, _, h => by omega
 | n + 1, k, hk, h => by
  rw [iter_succ]
  by_cases hl : k < v.length
  ·rw [hs _ k hl, List.drop_eq_getElem_cons hl, List.all_cons]
   cases P v[k] with
   | true => rw [cond_true, Bool.true_and, all_lp v P hs he n (k + 1) (by omega) (by omega)]
   | false => rfl
  ·have : k = v.length := by omega
   subst this
   rw [he, List.drop_length]; rfl
theorem trim_all (l cs : List UInt8) : (Lib.trimS l cs == []) = l.all (fun b => cs.contains b) := by
 rw [Bool.eq_iff_iff, beq_iff_eq, List.all_eq_true]
 constructor
 ·exact trimS_nil
 ·intro h
  unfold Lib.trimS Lib.trimLeftS Lib.trimRightS
  have h2 : l.reverse.dropWhile (cs.contains ·) = [] := dropWhile_head fun b hb => h b (List.mem_reverse.1 ((List.dropWhile_sublist _).subset hb))
  rw [h2]; rfl
abbrev digS : List UInt8 := [48, 49, 50, 51, 52, 53, 54, 55, 56, 57]
abbrev letS : List UInt8 := [65, 66, 67, 68, 69, 70, 71, 72, 73, 74, 75, 76, 77, 78, 79, 80, 81, 82, 83, 84, 85, 86, 87, 88, 89, 90, 97, 98, 99, 100, 101, 102, 103, 104, 105, 106, 107, 108, 109, 110, 111, 112, 113, 114, 115, 116, 117, 118, 119, 120, 121, 122]
abbrev encS : List UInt8 := [65, 66, 67, 68, 69, 70, 71, 72, 73, 74, 75, 76, 77, 78, 79, 80, 81, 82, 83, 84, 85, 86, 87, 88, 89, 90, 97, 98, 99, 100, 101, 102, 103, 104, 105, 106, 107, 108, 109, 110, 111, 112, 113, 114, 115, 116, 117, 118, 119, 120, 121, 122, 48, 49, 50, 51, 52, 53, 54, 55, 56, 57, 46, 95, 45]
theorem dig_eq (c : UInt8) : F_lecternref03_digit (c.toNat : Int) = some (digS.contains c) := by
 have := all_u8 (p := fun c => F_lecternref03_digit (c.toNat : Int) == some (digS.contains c)) (by decide +kernel) c
 simpa using this
theorem let_eq (c : UInt8) : F_lecternref03_letter (c.toNat : Int) = some (decide ((0 : Int) ≤ Lib.indexByte letS c)) := by
 have := all_u8 (p := fun c => F_lecternref03_letter (c.toNat : Int) == some (decide ((0 : Int) ≤ Lib.indexByte letS c))) (by decide +kernel) c
 simpa using this
theorem enc_eq (c : UInt8) : ((((decide ((0 : Int) ≤ Lib.indexByte letS c) || digS.contains c) || ((c.toNat : Int) == 46)) || ((c.toNat : Int) == 95)) || ((c.toNat : Int) == 45)) = encS.contains c := by
 have := all_u8 (p := fun c => ((((decide ((0 : Int) ≤ Lib.indexByte letS c) || digS.contains c) || ((c.toNat : Int) == 46)) || ((c.toNat : Int) == 95)) || ((c.toNat : Int) == 45)) == encS.contains c) (by decide +kernel) c
 exact eq_of_beq this
theorem allowed_0 (v : List UInt8) (k : Nat) (hk : k ≤ v.length) (hv : v.length ≤ 1073741824) : iter (F_lecternref03_allowed_l1 v) FUEL (k : Int) = some (if (v.drop k).all (fun b => digS.contains b) = true then .inl () else .inr false) :=
 all_lp v _ (fun rec k h => by
  unfold F_lecternref03_allowed_l1
  rw [decide_eq_true (show (k : Int) < (v.length : Int) by omega), cond_true, idx_some h, Option.bind_some, dig_eq, Option.bind_some, w64 (x := (k : Int) + 1) (by omega) (by omega)]
  cases digS.contains v[k] <;> rfl) (fun rec => by
  unfold F_lecternref03_allowed_l1
  rw [decide_eq_false (by omega), cond_false]) FUEL k hk (by unfold FUEL; omega)
theorem allowed_1 (v : List UInt8) (k : Nat) (hk : k ≤ v.length) (hv : v.length ≤ 1073741824) : iter (F_lecternref03_allowed_l0 v) FUEL (k : Int) = some (if (v.drop k).all (fun b => encS.contains b) = true then .inl () else .inr false) :=
 all_lp v _ (fun rec k h => by
  unfold F_lecternref03_allowed_l0
  simp only [letJ]
  rw [decide_eq_true (show (k : Int) < (v.length : Int) by omega), cond_true, idx_some h, w64 (x := (k : Int) + 1) (by omega) (by omega)]
  simp only [Option.bind_some, let_eq, dig_eq]
  rw [← enc_eq]
  unfold bne
  cases decide ((0 : Int) ≤ Lib.indexByte letS v[k]) <;> cases digS.contains v[k] <;> cases ((v[k].toNat : Int) == 46) <;> cases ((v[k].toNat : Int) == 95) <;> cases ((v[k].toNat : Int) == 45) <;> rfl) (fun rec => by
  unfold F_lecternref03_allowed_l0
  rw [decide_eq_false (by omega), cond_false]) FUEL k hk (by unfold FUEL; omega)
end Go.Proofs.YtfokkdofcekdbaaGreatDoor

set_option linter.unusedSimpArgs false
set_option linter.unusedVariables false
set_option maxRecDepth 20000
namespace Go.Proofs.YtfokkdofcekdbaaGreatDoor
open Go.Lib (decodeL decodeN)
theorem fits_0 (v : List UInt8) (hv : v.length ≤ 1073741824) : ∃ r, F_scan_fits [118, 101, 114, 115, 105, 111, 110] v = some r ∧ F_lecternref03_allowed (0 : Int) v = some r := by
 unfold F_scan_fits F_lecternref03_allowed
 rw [show ((([118, 101, 114, 115, 105, 111, 110] : List UInt8)) == [118, 101, 114, 115, 105, 111, 110]) = true from rfl, cond_true, cutPrefix_eq, Option.bind_some]
 simp only [letJ]
 rw [show ((0 : Int) == 2) = false from rfl, cond_false, show ((0 : Int) == 1) = false from rfl, cond_false]
 by_cases hl : v.length < 3
 ·rw [decide_eq_true (by omega), cond_true, cond_true]
  refine ⟨false, ?_, rfl⟩
  by_cases hp : ([49, 46] : List UInt8).isPrefixOf v = true
  ·rw [if_pos hp]
   have : v.drop ([49, 46] : List UInt8).length = [] := List.drop_eq_nil_of_le (by show v.length ≤ 2; omega)
   rw [this]; rfl
  ·rw [if_neg hp]; rfl
 ·have hsl : slc v (0 : Int) (2 : Int) = some (v.take 2) := by
   have := slc_take0 (l := v) (n := 2) (by omega)
   exact this
  have hpre : ([49, 46] : List UInt8).isPrefixOf v = (v.take 2 == [49, 46]) := by
   rw [isPre_take, decide_eq_true (show ([49, 46] : List UInt8).length ≤ v.length by show 2 ≤ v.length; omega), Bool.true_and]; rfl
  rw [decide_eq_false (by omega), cond_false, hsl, Option.bind_some, hpre]
  have hloop := allowed_0 v 2 (by omega) hv
  rw [show (((2 : Nat) : Int)) = (2 : Int) from rfl] at hloop
  cases hq : v.take 2 == [49, 46] with
  | false => rw [if_neg (by simp)]; exact ⟨false, rfl, rfl⟩
  | true =>
   rw [if_pos rfl, Bool.not_true, cond_false, hloop, Option.bind_some]
   have hne : ((v.drop ([49, 46] : List UInt8).length) == ([] : List UInt8)) = false := by
    rw [beq_eq_false_iff_ne]; intro h
    have := congrArg List.length h
    rw [List.length_drop] at this
    simp at this; omega
   have ht : L_Trim (v.drop ([49, 46] : List UInt8).length) digS = some (Lib.trimS (v.drop ([49, 46] : List UInt8).length) digS) := by
    unfold L_Trim; rw [if_pos ⟨by rw [List.length_drop]; omega, by decide, by decide⟩]
   refine ⟨(v.drop 2).all (fun b => digS.contains b), ?_, ?_⟩
   ·dsimp only
    rw [hne, Bool.not_false, Bool.true_and, cond_true, ht, Option.bind_some, trim_all]; rfl
   ·cases (v.drop 2).all (fun b => digS.contains b) <;> rfl
theorem fits_1 (v : List UInt8) (hv : v.length ≤ 1073741824) : ∃ r, F_scan_fits [101, 110, 99, 111, 100, 105, 110, 103] v = some r ∧ F_lecternref03_allowed (1 : Int) v = some r ∧ (r = true → v ≠ [] ∧ ∀ b ∈ v, b.toNat < 128) := by
 obtain ⟨r0, hr0, hlo⟩ := fits_sp [101, 110, 99, 111, 100, 105, 110, 103] v hv
 have hlo := hlo rfl
 refine ⟨r0, hr0, ?_, ?_⟩
 all_goals unfold F_scan_fits at hr0
 all_goals rw [show ((([101, 110, 99, 111, 100, 105, 110, 103] : List UInt8)) == [118, 101, 114, 115, 105, 111, 110]) = false from rfl, cond_false, show ((([101, 110, 99, 111, 100, 105, 110, 103] : List UInt8)) == [101, 110, 99, 111, 100, 105, 110, 103]) = true from rfl, cond_true] at hr0
 all_goals simp only [letJ] at hr0
 ·unfold F_lecternref03_allowed
  simp only [letJ]
  rw [show ((1 : Int) == 2) = false from rfl, cond_false, show ((1 : Int) == 1) = true from rfl, cond_true]
  by_cases c3 : v = []
  ·rw [show (v == ([] : List UInt8)) = true by simp [c3]] at hr0 ⊢
   rw [← hr0]; rfl
  ·have hpos : 0 < v.length := List.length_pos_iff.2 c3
   have hloop := allowed_1 v 0 (Nat.zero_le _) hv
   rw [show (((0 : Nat) : Int)) = (0 : Int) from rfl, List.drop_zero] at hloop
   rw [show (v == ([] : List UInt8)) = false by simpa using c3] at hr0 ⊢
   rw [Bool.not_false, cond_true, show (0 : Int) = ((0 : Nat) : Int) from rfl, idx_some hpos, Option.bind_some] at hr0
   rw [cond_false, show (0 : Int) = ((0 : Nat) : Int) from rfl, idx_some hpos, Option.bind_some, let_eq, Option.bind_some, show (((0 : Nat) : Int)) = (0 : Int) from rfl, hloop, Option.bind_some]
   unfold L_IndexByte at hr0
   rw [nat_u8, Option.bind_some] at hr0
   rw [← hr0]
   show _ = cond (decide ((0 : Int) ≤ Lib.indexByte letS v[0])) _ _
   cases decide ((0 : Int) ≤ Lib.indexByte letS v[0]) with
   | false => rfl
   | true =>
    have ht : L_Trim v encS = some (Lib.trimS v encS) := by
     unfold L_Trim; rw [if_pos ⟨by omega, by decide, by decide⟩]
    rw [Bool.not_true, cond_false, cond_true, ht, Option.bind_some, trim_all]
    cases v.all (fun b => encS.contains b) <;> rfl
 ·rintro rfl
  refine ⟨?_, hlo rfl⟩
  rintro rfl
  cases hr0
theorem fits_2 (v : List UInt8) : ∃ r, F_scan_fits [115, 116, 97, 110, 100, 97, 108, 111, 110, 101] v = some r ∧ F_lecternref03_allowed (2 : Int) v = some r := ⟨_, rfl, rfl⟩
theorem fits_two (k : Nat) (hk : k < 3) (w v : List UInt8) (hw : idx DeclW (k : Int) = some w) (hv : v.length ≤ 1073741824) : ∃ r, F_scan_fits w v = some r ∧ F_lecternref03_allowed (k : Int) v = some r ∧ (k = 1 → r = true → v ≠ [] ∧ ∀ b ∈ v, b.toNat < 128) := by
 have h : k = 0 ∨ k = 1 ∨ k = 2 := by omega
 rcases h with rfl | rfl | rfl
 ·have hw := Option.some.inj hw
  subst hw
  obtain ⟨r, h1, h2⟩ := fits_0 v hv
  exact ⟨r, h1, h2, fun h => by cases h⟩
 ·have hw := Option.some.inj hw
  subst hw
  obtain ⟨r, h1, h2, h3⟩ := fits_1 v hv
  exact ⟨r, h1, h2, fun _ => h3⟩
 ·have hw := Option.some.inj hw
  subst hw
  obtain ⟨r, h1, h2⟩ := fits_2 v
  exact ⟨r, h1, h2, fun h => by cases h⟩
theorem quo_ok (b : List UInt8) (i : Nat) (hi : i ≤ b.length) (hb : b.length ≤ 1073741824) (h : (quo b i).1.2 = 0) : ∃ (v : List UInt8) (j : Nat), quo b i = ((v, 0), ⟨b, (j : Int)⟩) ∧ i < j ∧ j ≤ b.length ∧ v.length ≤ b.length := by
 obtain ⟨v, e, j, h1, h2, h3, h4, h5⟩ := quoted_sp b i hi hb
 rw [quoted_eq b i hi hb] at h1
 have h1 := Option.some.inj h1
 rw [h1] at h ⊢
 have h : e = 0 := h
 subst h
 exact ⟨v, j, rfl, h5 rfl, h3, h4⟩
theorem quo_no (b : List UInt8) (i : Nat) (h : (quo b i).1.2 ≠ 0) : (quo b i).1.2 = 23 := by
 unfold quo at h ⊢
 split at h
 ·exact absurd rfl h
 ·rename_i hc; rw [if_neg hc]
abbrev tk0 : T_lecternref03_Token := ⟨(0 : Int), (0 : Int), ([] : List UInt8), ([] : List T_scan_Pair), ([] : List UInt8), (0 : Int)⟩
abbrev utf8w : List UInt8 := [117, 116, 102, 45, 56]
def oddE (la : List UInt8) : Bool := !(la == []) && !(la.map lowB == utf8w)
theorem decl_two_l0 (b : List UInt8) (At : Int) (h5 : 5 ≤ b.length) (hb : b.length ≤ 1073741824) :
  ∃ o q, iter (F_scan_scanner_decl_l0) FUEL (b, (5 : Int), (1 : Int), At, ([] : List UInt8), ([] : List T_scan_Pair), ([] : List UInt8), (0 : Int), ([] : List UInt8), (0 : Int)) = some o ∧
   iter (F_lecternref03_declaration_l0 b) FUEL ((0 : Int), (0 : Int), ([] : List UInt8), ([] : List T_scan_Pair), ([] : List UInt8), (0 : Int), (1 : Int), (0 : Int), ([] : List UInt8), ([] : List T_scan_Pair), ([] : List UInt8), (0 : Int), (5 : Int), false, (0 : Int)) = some q ∧
  ((∃ (j : Nat) (ps : List T_scan_Pair) (la : List UInt8), o = .inl (b, (j : Int), la, (1 : Int), At, [], ps, [], 0) ∧ q = .inl ((0 : Int), (0 : Int), ([] : List UInt8), ([] : List T_scan_Pair), ([] : List UInt8), (0 : Int), (1 : Int), (0 : Int), ([] : List UInt8), ps, ([] : List UInt8), (0 : Int), (j : Int), oddE la) ∧ 5 ≤ j ∧ j ≤ b.length ∧ la.length ≤ 1073741824 ∧ ∀ c ∈ la, c.toNat < 128) ∨
   (∃ (s : T_scan_scanner) (t' : Tk), o = .inr ((23 : Int), s, t') ∧ q = .inr (tk0, (0 : Int), (23 : Int)))) := by
 refine iter_two (b := F_scan_scanner_decl_l0) (c := F_lecternref03_declaration_l0 b) (fun x => 3 - x.2.2.2.2.2.2.2.2.2.toNat) (fun x y => ∃ (j k : Nat) (ps : List T_scan_Pair) (la : List UInt8), x = (b, (j : Int), (1 : Int), At, [], ps, [], 0, la, (k : Int)) ∧
  y = ((0 : Int), (0 : Int), ([] : List UInt8), ([] : List T_scan_Pair), ([] : List UInt8), (0 : Int), (1 : Int), (0 : Int), ([] : List UInt8), ps, ([] : List UInt8), (0 : Int), (j : Int), oddE la, (k : Int)) ∧ 5 ≤ j ∧ j ≤ b.length ∧ k ≤ 3 ∧ ps.length ≤ k ∧ la.length ≤ 1073741824 ∧ (∀ c ∈ la, c.toNat < 128) ∧ (k ≤ 1 → la = [])) _ ?_ FUEL FUEL _ _ ⟨5, 0, [], [], rfl, rfl, by omega, h5, by omega, by simp, by simp, by simp, fun _ => rfl⟩ (by unfold FUEL; dsimp only; omega) (by unfold FUEL; dsimp only; omega)
 rintro _ _ ⟨j, k, ps, la, rfl, rfl, g1, g2, g3, g5, g6, g7, g8⟩
 by_cases hk : k < 3
 case neg =>
  right
  refine ⟨.inl (b, (j : Int), la, (1 : Int), At, [], ps, [], 0), .inl ((0 : Int), (0 : Int), ([] : List UInt8), ([] : List T_scan_Pair), ([] : List UInt8), (0 : Int), (1 : Int), (0 : Int), ([] : List UInt8), ps, ([] : List UInt8), (0 : Int), (j : Int), oddE la), fun rec => ?_, fun rec => ?_, .inl ⟨j, ps, la, rfl, rfl, g1, g2, g6, g7⟩⟩
  ·unfold F_scan_scanner_decl_l0
   dsimp only
   rw [show decide ((k : Int) < (DeclW.length : Int)) = false from decide_eq_false (show ¬ (k : Int) < ((3 : Nat) : Int) by omega), cond_false]
  ·unfold F_lecternref03_declaration_l0
   dsimp only
   rw [decide_eq_false (by omega), cond_false]
 obtain ⟨w, hidx, w1, w2, w3⟩ := declW_at k hk
 have hidN : idxN 3 DeclW (k : Int) = some w := by unfold idxN; rw [if_pos (by omega)]; exact hidx
 have hkt : decide ((k : Int) < (DeclW.length : Int)) = true := decide_eq_true (show (k : Int) < ((3 : Nat) : Int) by omega)
 have hkt2 : decide ((k : Int) < 3) = true := decide_eq_true (by omega)
 obtain ⟨s1, s2⟩ := sk_le wsP b j g2
 have hsp := spaces_eq b (j : Int) j g2 hb
 have hwh := white_at b j g2 hb
 have hst := stands_at b (sk wsP b j) w s2 hb (by omega)
 have hk1 : IntKind.wrap .i64 ((k : Int) + 1) = ((k + 1 : Nat) : Int) := by rw [w64 (by omega) (by omega)]; omega
 have hver : (w == ([118, 101, 114, 115, 105, 111, 110] : List UInt8)) = ((k : Int) == 0) := by
  have h : k = 0 ∨ k = 1 ∨ k = 2 := by omega
  rcases h with rfl | rfl | rfl <;> (have hidx := Option.some.inj hidx; subst hidx; rfl)
 have henc : (w == ([101, 110, 99, 111, 100, 105, 110, 103] : List UInt8)) = ((k : Int) == 1) := by
  have h : k = 0 ∨ k = 1 ∨ k = 2 := by omega
  rcases h with rfl | rfl | rfl <;> (have hidx := Option.some.inj hidx; subst hidx; rfl)
 have absent : ((((sk wsP b j : Nat) : Int) == (j : Int)) = true ∨ (((sk wsP b j : Nat) : Int) == (j : Int)) = false ∧ hereP b (sk wsP b j) w = false) →
   (∀ rec, F_scan_scanner_decl_l0 rec (b, (j : Int), (1 : Int), At, [], ps, [], 0, la, (k : Int)) = cond ((k : Int) == 0) (some (.inr ((23 : Int), (⟨b, (j : Int)⟩ : T_scan_scanner), (⟨1, At, [], ps, [], 0⟩ : T_scan_Token)))) (rec (b, (j : Int), (1 : Int), At, [], ps, [], 0, la, ((k + 1 : Nat) : Int)))) ∧
   (∀ rec, F_lecternref03_declaration_l0 b rec ((0 : Int), (0 : Int), ([] : List UInt8), ([] : List T_scan_Pair), ([] : List UInt8), (0 : Int), (1 : Int), (0 : Int), ([] : List UInt8), ps, ([] : List UInt8), (0 : Int), (j : Int), oddE la, (k : Int)) = cond ((k : Int) == 0) (some (.inr (tk0, (0 : Int), (23 : Int)))) (rec ((0 : Int), (0 : Int), ([] : List UInt8), ([] : List T_scan_Pair), ([] : List UInt8), (0 : Int), (1 : Int), (0 : Int), ([] : List UInt8), ps, ([] : List UInt8), (0 : Int), (j : Int), oddE la, ((k + 1 : Nat) : Int)))) := by
  intro hab
  constructor
  ·intro rec
   unfold F_scan_scanner_decl_l0
   dsimp only
   rw [hkt, cond_true]
   simp only [letJ]
   rw [hidx, Option.bind_some, hsp, Option.bind_some, ← hver, hk1]
   rcases hab with h | ⟨h, h2⟩
   ·rw [h, cond_true, cond_true]
   ·have h2 : w.isPrefixOf (b.drop (sk wsP b j)) = false := h2
    rw [h, cond_false, slc_drop s2, Option.bind_some, hasPrefix_eq, Option.bind_some, h2, Bool.not_false, cond_true]
  ·intro rec
   unfold F_lecternref03_declaration_l0
   dsimp only
   rw [hkt2, cond_true]
   simp only [letJ]
   rw [hidN, Option.bind_some, hwh, Option.bind_some, hk1, hst]
   rcases hab with h | ⟨h, h2⟩
   ·rw [decide_eq_false (by rw [beq_iff_eq] at h; omega), cond_false, cond_false]
   ·rw [h2, Option.bind_some]
    cases decide ((j : Int) < ((sk wsP b j : Nat) : Int)) <;> rfl
 by_cases hab : ((((sk wsP b j : Nat) : Int) == (j : Int)) = true ∨ (((sk wsP b j : Nat) : Int) == (j : Int)) = false ∧ hereP b (sk wsP b j) w = false)
 ·obtain ⟨a1, a2⟩ := absent hab
  cases hk0 : ((k : Int) == 0) with
  | true =>
   rw [hk0] at a1 a2
   exact .inr ⟨_, _, a1, a2, .inr ⟨_, _, rfl, rfl⟩⟩
  | false =>
   rw [hk0] at a1 a2
   exact .inl ⟨_, _, a1, a2, ⟨j, k + 1, ps, la, rfl, rfl, g1, g2, by omega, by omega, g6, g7, fun h => g8 (by omega)⟩, by dsimp only; omega⟩
 have c3' : (((sk wsP b j : Nat) : Int) == (j : Int)) = false := by
  cases h : (((sk wsP b j : Nat) : Int) == (j : Int)) with
  | false => rfl
  | true => exact absurd (.inl h) hab
 have hh : hereP b (sk wsP b j) w = true := by
  cases h : hereP b (sk wsP b j) w with
  | true => rfl
  | false => exact absurd (.inr ⟨c3', h⟩) hab
 have hlt : decide ((j : Int) < ((sk wsP b j : Nat) : Int)) = true := by
  rw [beq_eq_false_iff_ne] at c3'
  exact decide_eq_true (by omega)
 have hh' : w.isPrefixOf (b.drop (sk wsP b j)) = true := hh
 have hl := hereP_len hh s2
 have hadd : IntKind.wrap .i64 (((sk wsP b j : Nat) : Int) + (w.length : Int)) = ((sk wsP b j + w.length : Nat) : Int) := by rw [w64 (by omega) (by omega)]; omega
 have heq := equals_eq b (sk wsP b j + w.length) hl hb
 have hva := value_two b (sk wsP b j + w.length) hl hb
 obtain ⟨p1, p2⟩ := sk_le wsP b (sk wsP b j + w.length) hl
 have hi5 : 5 ≤ sk wsP b j + w.length := by omega
 generalize sk wsP b j + w.length = i2 at *
 cases h61 : hereP b (sk wsP b i2) [61] with
 | false =>
  rw [h61, if_neg (by simp)] at heq hva
  refine .inr ⟨_, _, fun rec => ?_, fun rec => ?_, .inr ⟨⟨b, ((sk wsP b (sk wsP b i2) : Nat) : Int)⟩, ⟨1, At, [], ps, [], 0⟩, rfl, rfl⟩⟩
  ·unfold F_scan_scanner_decl_l0
   dsimp only
   rw [hkt, cond_true]
   simp only [letJ]
   rw [hidx, Option.bind_some, hsp, Option.bind_some, c3', cond_false, slc_drop s2, Option.bind_some, hasPrefix_eq, Option.bind_some, hh', Bool.not_true, cond_false, hadd, heq, Option.bind_some]
   rfl
  ·unfold F_lecternref03_declaration_l0
   dsimp only
   rw [hkt2, cond_true]
   simp only [letJ]
   rw [hidN, Option.bind_some, hwh, Option.bind_some, hlt, cond_true, hst, Option.bind_some, hh, cond_true, hadd, hva, Option.bind_some]
   rfl
 | true =>
  have hl61 := hereP_len h61 p2
  simp only [List.length_cons, List.length_nil, Nat.zero_add] at hl61
  obtain ⟨t1, t2⟩ := sk_le wsP b (sk wsP b i2 + 1) hl61
  rw [h61, if_pos rfl] at heq hva
  generalize sk wsP b (sk wsP b i2 + 1) = k2 at *
  have hqe := quoted_eq b k2 t2 hb
  by_cases hq : (quo b k2).1.2 = 0
  case neg =>
   have hq23 := quo_no b k2 hq
   rw [if_neg hq] at hva
   refine .inr ⟨_, _, fun rec => ?_, fun rec => ?_, .inr ⟨(quo b k2).2, ⟨1, At, [], ps, [], 0⟩, rfl, rfl⟩⟩
   ·unfold F_scan_scanner_decl_l0
    dsimp only
    rw [hkt, cond_true]
    simp only [letJ]
    rw [hidx, Option.bind_some, hsp, Option.bind_some, c3', cond_false, slc_drop s2, Option.bind_some, hasPrefix_eq, Option.bind_some, hh', Bool.not_true, cond_false, hadd, heq, Option.bind_some]
    dsimp only
    rw [show ((0 : Int) != 0) = false from rfl, cond_false, hqe, Option.bind_some, hq23, show ((23 : Int) != 0) = true from rfl, cond_true, cond_true]
   ·unfold F_lecternref03_declaration_l0
    dsimp only
    rw [hkt2, cond_true]
    simp only [letJ]
    rw [hidN, Option.bind_some, hwh, Option.bind_some, hlt, cond_true, hst, Option.bind_some, hh, cond_true, hadd, hva, Option.bind_some]
    rfl
  obtain ⟨v, j3, hqv, v1, v2, v3⟩ := quo_ok b k2 t2 hb hq
  rw [hqv, if_pos rfl] at hva
  rw [hqv] at hqe
  obtain ⟨r, r1, r2, r3⟩ := fits_two k hk w v hidx (by omega)
  have preS : ∀ rec, F_scan_scanner_decl_l0 rec (b, (j : Int), (1 : Int), At, [], ps, [], 0, la, (k : Int)) = cond (!r) (some (.inr ((23 : Int), (⟨b, (j3 : Int)⟩ : T_scan_scanner), (⟨1, At, [], ps, [], 0⟩ : T_scan_Token))))
    ((app 32 ps [(⟨w, v⟩ : T_scan_Pair)]).bind fun _ =>
      (some (ps ++ [(⟨w, v⟩ : T_scan_Pair)])).bind fun a129 =>
     cond (w == ([101, 110, 99, 111, 100, 105, 110, 103] : List UInt8))
      (rec (b, (j3 : Int), (1 : Int), At, [], a129, [], 0, v, ((k + 1 : Nat) : Int)))
      (rec (b, (j3 : Int), (1 : Int), At, [], a129, [], 0, la, ((k + 1 : Nat) : Int)))) := by
   intro rec
   unfold F_scan_scanner_decl_l0
   dsimp only
   rw [hkt, cond_true]
   simp only [letJ]
   rw [hidx, Option.bind_some, hsp, Option.bind_some, c3', cond_false, slc_drop s2, Option.bind_some, hasPrefix_eq, Option.bind_some, hh', Bool.not_true, cond_false, hadd, heq, Option.bind_some]
   dsimp only
   rw [show ((0 : Int) != 0) = false from rfl, cond_false, hqe, Option.bind_some]
   dsimp only
   rw [show ((0 : Int) != 0) = false from rfl, cond_false, r1, Option.bind_some]
   simp only [hk1]
  have preR : ∀ rec, F_lecternref03_declaration_l0 b rec ((0 : Int), (0 : Int), ([] : List UInt8), ([] : List T_scan_Pair), ([] : List UInt8), (0 : Int), (1 : Int), (0 : Int), ([] : List UInt8), ps, ([] : List UInt8), (0 : Int), (j : Int), oddE la, (k : Int)) = cond (!r) (some (.inr (tk0, (0 : Int), (23 : Int))))
    ((app 32 ps [(⟨w, v⟩ : T_scan_Pair)]).bind fun _ =>
     cond (oddE la) (rec ((0 : Int), (0 : Int), ([] : List UInt8), ([] : List T_scan_Pair), ([] : List UInt8), (0 : Int), (1 : Int), (0 : Int), ([] : List UInt8), (ps ++ [(⟨w, v⟩ : T_scan_Pair)]), ([] : List UInt8), (0 : Int), (j3 : Int), true, ((k + 1 : Nat) : Int)))
      (cond ((k : Int) == 1) (rec ((0 : Int), (0 : Int), ([] : List UInt8), ([] : List T_scan_Pair), ([] : List UInt8), (0 : Int), (1 : Int), (0 : Int), ([] : List UInt8), (ps ++ [(⟨w, v⟩ : T_scan_Pair)]), ([] : List UInt8), (0 : Int), (j3 : Int), !(v.map lowB == utf8w), ((k + 1 : Nat) : Int)))
       (rec ((0 : Int), (0 : Int), ([] : List UInt8), ([] : List T_scan_Pair), ([] : List UInt8), (0 : Int), (1 : Int), (0 : Int), ([] : List UInt8), (ps ++ [(⟨w, v⟩ : T_scan_Pair)]), ([] : List UInt8), (0 : Int), (j3 : Int), false, ((k + 1 : Nat) : Int))))) := by
   intro rec
   unfold F_lecternref03_declaration_l0
   dsimp only
   rw [hkt2, cond_true]
   simp only [letJ]
   rw [hidN, Option.bind_some, hwh, Option.bind_some, hlt, cond_true, hst, Option.bind_some, hh, cond_true, hadd, hva, Option.bind_some]
   dsimp only
   rw [decide_eq_false (show ¬ (j3 : Int) < 0 by omega), cond_false, r2, Option.bind_some, small_eq v (by omega), hk1]
   simp only [Option.bind_some]
  cases r with
  | false => exact .inr ⟨_, _, preS, preR, .inr ⟨_, _, rfl, rfl⟩⟩
  | true =>
   have happ : app 32 ps [(⟨w, v⟩ : T_scan_Pair)] = some (ps ++ [(⟨w, v⟩ : T_scan_Pair)]) := app_some (by simp; omega) (by simp; omega)
   cases hke : ((k : Int) == 1) with
   | true =>
    have hk1e : k = 1 := by rw [beq_iff_eq] at hke; omega
    have hla := g8 (by omega)
    obtain ⟨n1, n2⟩ := r3 hk1e rfl
    have hodd : oddE la = false := by rw [hla]; rfl
    have hoddv : oddE v = !(v.map lowB == utf8w) := by unfold oddE; rw [ne_nil_beq n1, Bool.not_false, Bool.true_and]
    refine .inl ⟨_, _, fun rec => by rw [preS, Bool.not_true, cond_false, happ, Option.bind_some, Option.bind_some, henc, hke, cond_true], fun rec => by rw [preR, Bool.not_true, cond_false, happ, Option.bind_some, hodd, cond_false, hke, cond_true, ← hoddv], ⟨j3, k + 1, _, v, rfl, rfl, by omega, v2, by omega, by simp; omega, by omega, n2, fun h => by omega⟩, by dsimp only; omega⟩
   | false =>
    refine .inl ⟨_, _, fun rec => by rw [preS, Bool.not_true, cond_false, happ, Option.bind_some, Option.bind_some, henc, hke, cond_false], fun rec => ?_, ⟨j3, k + 1, ps ++ [(⟨w, v⟩ : T_scan_Pair)], la, rfl, rfl, by omega, v2, by omega, by simp; omega, g6, g7, fun h => g8 (by omega)⟩, by dsimp only; omega⟩
    rw [preR, Bool.not_true, cond_false, happ, Option.bind_some, hke, cond_false]
    cases oddE la <;> rfl
structure SameT (t : Tk) (r : T_lecternref03_Token) : Prop where
 k : t.Kind = r.Kind
 n : t.Name = r.Name
 p : t.Pairs = r.Pairs
 x : t.Text = r.Text
 f : t.Refs = r.Refs
def TokS (x : Int × T_scan_scanner × Tk) (y : T_lecternref03_Token × Int × Int) : Prop := x.1 = y.2.2 ∧ (x.1 = 0 → x.2.1.at_ = y.2.1 ∧ SameT x.2.2 y.1)
theorem decl_two (b : List UInt8) (h5 : 5 ≤ b.length) (hb : b.length ≤ 1073741824) : ∃ x y, F_scan_scanner_decl ⟨b, (0 : Int)⟩ (tok0 0) = some x ∧ F_lecternref03_declaration b = some y ∧ TokS x y := by
 unfold F_scan_scanner_decl F_lecternref03_declaration
 simp only [letJ]
 obtain ⟨o, q, e1, e1', e2⟩ := decl_two_l0 b 0 h5 hb
 rw [e1, e1', Option.bind_some, Option.bind_some]
 rcases e2 with ⟨j, ps, la, rfl, rfl, h1, h2, h4, h6⟩ | ⟨s, t', rfl, rfl⟩
 ·dsimp only
  obtain ⟨s1, s2⟩ := sk_le wsP b j h2
  rw [spaces_eq b _ j h2 hb, Option.bind_some, sign_eq b _ _ s2 hb, Option.bind_some, white_at b j h2 hb, Option.bind_some, stands_at b _ _ s2 hb (by decide), Option.bind_some]
  cases hh : hereP b (sk wsP b j) [63, 62] with
  | false =>
   rw [if_neg (by simp)]
   exact ⟨_, _, rfl, rfl, rfl, fun h => by cases h⟩
  | true =>
   have hl := hereP_len hh s2
   simp only [List.length_cons, List.length_nil, Nat.zero_add, Nat.reduceAdd] at hl
   rw [if_pos rfl]
   dsimp only
   rw [show ((0 : Int) != 0) = false from rfl, cond_false, Bool.not_true, cond_false, w64 (by omega) (by omega)]
   have hlo := eqf_lo la utf8w h4 (by unfold okS; decide) h6
   unfold oddE
   cases la == ([] : List UInt8) with
   | true =>
    rw [Bool.not_true, cond_false, cond_false, Bool.false_and, cond_false]
    exact ⟨_, _, rfl, rfl, rfl, fun _ => ⟨by show ((_ : Nat) : Int) = _; simp, ⟨rfl, rfl, rfl, rfl, rfl⟩⟩⟩
   | false =>
    rw [Bool.not_false, cond_true, hlo, Option.bind_some, Bool.true_and]
    cases la.map lowB == utf8w with
    | true =>
     exact ⟨_, _, rfl, rfl, rfl, fun _ => ⟨by show ((_ : Nat) : Int) = _; simp, ⟨rfl, rfl, rfl, rfl, rfl⟩⟩⟩
    | false =>
     exact ⟨_, _, rfl, rfl, rfl, fun h => by cases h⟩
 ·exact ⟨_, _, rfl, rfl, rfl, fun h => by cases h⟩
end Go.Proofs.YtfokkdofcekdbaaGreatDoor

set_option linter.unusedSimpArgs false
set_option linter.unusedVariables false
set_option maxRecDepth 20000
namespace Go.Proofs.YtfokkdofcekdbaaGreatDoor
open Go.Lib (decodeL decodeN)
theorem tokS_bad {e : Int} {s : T_scan_scanner} {t : Tk} {r : T_lecternref03_Token} {n : Int} (he : e ≠ 0) : TokS (e, s, t) (r, n, e) := ⟨rfl, fun h => absurd h he⟩
theorem closing_two (b : List UInt8) (i : Nat) (hi : i + 2 ≤ b.length) (hb : b.length ≤ 1073741824) (hok : OkT (b.drop (i + 2))) : ∃ x y, F_scan_scanner_closing ⟨b, (i : Int)⟩ (tok0 i) = some x ∧
  ((F_lecternref03_written b (IntKind.wrap .i64 ((i : Int) + (2 : Int)))).bind fun x35 =>
       cond (x35.2.2 != (0 : Int))
       (some (tk0, (0 : Int), x35.2.2))
       ((F_lecternref03_White b x35.2.1).bind fun x37 =>
        (F_lecternref03_Stands b x37 ([62] : List UInt8)).bind fun x38 =>
       cond (!x38)
        (some (tk0, (0 : Int), (23 : Int)))
        (some ((⟨(3 : Int), (0 : Int), x35.1, ([] : List T_scan_Pair), ([] : List UInt8), (0 : Int)⟩ : T_lecternref03_Token), (IntKind.wrap .i64 (x37 + (1 : Int))), (0 : Int))))) = some y ∧ TokS x y := by
 obtain ⟨v, e, j, h1, h2, h3, h4, h5⟩ := written_two b (i + 2) hi hb hok
 unfold F_scan_scanner_closing
 dsimp only
 rw [w64 (x := (i : Int) + 2) (by omega) (by omega), show (i : Int) + 2 = ((i + 2 : Nat) : Int) by omega, h1, h2, Option.bind_some, Option.bind_some]
 by_cases he : e = 0
 ·subst he
  rw [if_pos rfl]
  dsimp only
  obtain ⟨s1, s2⟩ := sk_le wsP b j h4
  rw [show ((0 : Int) != 0) = false from rfl, cond_false, cond_false, spaces_eq b _ j h4 hb, white_at b j h4 hb, Option.bind_some, Option.bind_some, sign_eq b _ _ s2 hb, stands_at b _ _ s2 hb (by decide), Option.bind_some, Option.bind_some]
  cases hh : hereP b (sk wsP b j) [62] with
  | false => rw [if_neg (c := false = true) (by simp)]; exact ⟨_, _, rfl, rfl, tokS_bad (e := 23) (by decide)⟩
  | true =>
   have hl := hereP_len hh s2
   simp only [List.length_cons, List.length_nil, Nat.zero_add] at hl
   rw [if_pos rfl, Bool.not_true, cond_false, w64 (by omega) (by omega)]
   exact ⟨_, _, rfl, rfl, rfl, fun _ => ⟨by show ((_ : Nat) : Int) = _; simp, ⟨rfl, rfl, rfl, rfl, rfl⟩⟩⟩
 ·rw [if_neg he]
  dsimp only
  rw [show (e != 0) = true by simpa using he, cond_true, cond_true]
  exact ⟨_, _, rfl, rfl, tokS_bad he⟩
theorem upTo_eq (b : List UInt8) (i k : Nat) (t : Tk) (w : List UInt8) (hw : w ≠ []) (hi : i + k ≤ b.length) (hb : b.length ≤ 1073741824) (hwl : w.length ≤ 100) : F_scan_scanner_upTo ⟨b, (i : Int)⟩ t (k : Int) w =
  some (if Lib.index (b.drop (i + k)) w < 0 then (23, ⟨b, (i : Int)⟩, t) else (0, ⟨b, ((i + k + (Lib.index (b.drop (i + k)) w).toNat + w.length : Nat) : Int)⟩, ⟨t.Kind, t.At, t.Name, t.Pairs, (b.drop (i + k)).take (Lib.index (b.drop (i + k)) w).toNat, t.Refs⟩)) := by
 unfold F_scan_scanner_upTo
 dsimp only
 rw [w64 (x := (i : Int) + (k : Int)) (by omega) (by omega), show (i : Int) + (k : Int) = ((i + k : Nat) : Int) by omega, slc_drop (by omega), Option.bind_some]
 unfold L_bIndex
 rw [if_pos ⟨by rw [List.length_drop]; omega, by omega, hw⟩, Option.bind_some]
 by_cases hn : Lib.index (b.drop (i + k)) w < 0
 ·rw [decide_eq_true hn, cond_true, if_pos hn]
 ·obtain ⟨m, e1⟩ : ∃ m : Nat, Lib.index (b.drop (i + k)) w = (m : Int) := ⟨(Lib.index (b.drop (i + k)) w).toNat, by omega⟩
  obtain ⟨_, e2⟩ := index_occ e1 hw
  rw [List.length_drop] at e2
  rw [decide_eq_false hn, cond_false, if_neg hn, e1, Int.toNat_natCast, slc_take0 (by rw [List.length_drop]; omega), Option.bind_some, w64 (x := (k : Int) + (m : Int)) (by omega) (by omega), w64 (x := (k : Int) + (m : Int) + (w.length : Int)) (by omega) (by omega), w64 (by omega) (by omega)]
  congr 3
  congr 1
  omega
theorem instr_two (b : List UInt8) (i : Nat) (hi : i + 2 ≤ b.length) (hb : b.length ≤ 1073741824) (hok : OkT (b.drop (i + 2))) : ∃ x y, F_scan_scanner_instr ⟨b, (i : Int)⟩ (tok0 i) = some x ∧ F_lecternref03_instruction b (IntKind.wrap .i64 ((i : Int) + (2 : Int))) = some y ∧ TokS x y := by
 obtain ⟨v, e, j, h1, h2, h3, h4, h5⟩ := written_two b (i + 2) hi hb hok
 unfold F_scan_scanner_instr F_lecternref03_instruction
 dsimp only
 rw [w64 (x := (i : Int) + 2) (by omega) (by omega), show (i : Int) + 2 = ((i + 2 : Nat) : Int) by omega, h1, h2, Option.bind_some, Option.bind_some]
 by_cases he : e = 0
 case neg =>
  rw [if_neg he]
  dsimp only
  rw [show (e != 0) = true by simpa using he, cond_true, cond_true]
  exact ⟨_, _, rfl, rfl, tokS_bad he⟩
 subst he
 rw [if_pos rfl]
 dsimp only
 obtain ⟨k1, k2, k3⟩ := h5 rfl
 have hvl : v.length ≤ 1073741824 := by rw [k2, List.length_take, List.length_drop]; omega
 rw [show ((0 : Int) != 0) = false from rfl, cond_false, cond_false, F_nameC, F_name1, Option.bind_some, Option.bind_some]
 cases nameP v with
 | false => exact ⟨_, _, rfl, rfl, tokS_bad (e := 24) (by decide)⟩
 | true =>
  rw [Bool.not_true, cond_false, cond_false, eqf_xmlV v hvl, small_eq v hvl, Option.bind_some, Option.bind_some]
  cases v.map lowB == [120, 109, 108] with
  | true => exact ⟨_, _, rfl, rfl, tokS_bad (e := 29) (by decide)⟩
  | false =>
   rw [cond_false, cond_false, here_eq b j _ h4, stands_at b j _ h4 hb (by decide), Option.bind_some, Option.bind_some]
   cases hh : hereP b j [63, 62] with
   | true =>
    have hl := hereP_len hh h4
    simp only [List.length_cons, List.length_nil, Nat.zero_add, Nat.reduceAdd] at hl
    rw [cond_true, cond_true, sign_eq b j _ h4 hb, Option.bind_some, hh, if_pos rfl, w64 (by omega) (by omega)]
    exact ⟨_, _, rfl, rfl, rfl, fun _ => ⟨by show ((_ : Nat) : Int) = _; simp, ⟨rfl, rfl, rfl, rfl, rfl⟩⟩⟩
   | false =>
    obtain ⟨s1, s2⟩ := sk_le wsP b j h4
    rw [cond_false, cond_false, spaces_eq b _ j h4 hb, white_at b j h4 hb, Option.bind_some, Option.bind_some, find_at b _ _ s2 hb (by simp) (by decide), Option.bind_some]
    cases hj : (((sk wsP b j : Nat) : Int) == (j : Int)) with
    | true => exact ⟨_, _, rfl, rfl, tokS_bad (e := 23) (by decide)⟩
    | false =>
     have hup := upTo_eq b (sk wsP b j) 0 ⟨(8 : Int), (i : Int), v, ([] : List T_scan_Pair), ([] : List UInt8), (0 : Int)⟩ [63, 62] (by simp) (by omega) hb (by decide)
     rw [show ((0 : Nat) : Int) = 0 from rfl, Nat.add_zero] at hup
     rw [cond_false, hup, Option.bind_some, Bool.false_or]
     by_cases hn : Lib.index (b.drop (sk wsP b j)) [63, 62] < 0
     ·rw [if_pos hn, if_pos hn]
      exact ⟨_, _, rfl, rfl, tokS_bad (e := 23) (by decide)⟩
     ·obtain ⟨m, e1⟩ : ∃ m : Nat, Lib.index (b.drop (sk wsP b j)) [63, 62] = (m : Int) := ⟨(Lib.index (b.drop (sk wsP b j)) [63, 62]).toNat, by omega⟩
      obtain ⟨_, e2⟩ := index_occ e1 (by simp)
      rw [List.length_drop] at e2
      simp only [List.length_cons, List.length_nil, Nat.zero_add, Nat.reduceAdd] at e2
      rw [if_neg hn, if_neg hn, e1, Int.toNat_natCast, decide_eq_false (by omega), cond_false, show ((sk wsP b j : Nat) : Int) + (m : Int) = ((sk wsP b j + m : Nat) : Int) by omega, slc_seg (by omega) (by omega), Option.bind_some, show sk wsP b j + m - sk wsP b j = m by omega, w64 (by omega) (by omega)]
      exact ⟨_, _, rfl, rfl, rfl, fun _ => ⟨by show ((_ : Nat) : Int) = _; simp, ⟨rfl, rfl, rfl, rfl, rfl⟩⟩⟩
theorem comment_two (b : List UInt8) (i : Nat) (hi : i + 4 ≤ b.length) (hb : b.length ≤ 1073741824) : ∃ x y,
  ((F_scan_scanner_upTo ⟨b, (i : Int)⟩ (tokK 7 i) (4 : Int) ([45, 45] : List UInt8)).bind fun x14 => cond (x14.1 != (0 : Int)) (some x14) ((F_scan_scanner_sign x14.2.1 ([62] : List UInt8)).bind fun x17 => some (x17.1, x17.2, x14.2.2))) = some x ∧
  ((F_lecternref03_Find b (IntKind.wrap .i64 ((i : Int) + (4 : Int))) ([45, 45] : List UInt8)).bind fun x14 =>
     (letJ (fun v17 : Bool => cond v17
      (some (tk0, (0 : Int), (23 : Int)))
      ((slc b (IntKind.wrap .i64 ((i : Int) + (4 : Int))) x14).bind fun x20 =>
      some ((⟨(7 : Int), (0 : Int), ([] : List UInt8), ([] : List T_scan_Pair), x20, (0 : Int)⟩ : T_lecternref03_Token), (IntKind.wrap .i64 (x14 + (3 : Int))), (0 : Int)))) fun J16 => cond (decide (x14 < (0 : Int))) (J16 true) ((F_lecternref03_Stands b x14 ([45, 45, 62] : List UInt8)).bind fun x18 =>
     J16 (!x18)))) = some y ∧ TokS x y := by
 have hup := upTo_eq b i 4 (tokK 7 i) [45, 45] (by simp) hi hb (by decide)
 rw [show ((4 : Nat) : Int) = 4 from rfl] at hup
 rw [hup, Option.bind_some, w64 (x := (i : Int) + 4) (by omega) (by omega), show (i : Int) + 4 = ((i + 4 : Nat) : Int) by omega, find_at b _ _ hi hb (by simp) (by decide), Option.bind_some]
 simp only [letJ]
 by_cases hn : Lib.index (b.drop (i + 4)) [45, 45] < 0
 ·rw [if_pos hn, if_pos hn]
  exact ⟨_, _, rfl, rfl, tokS_bad (e := 23) (by decide)⟩
 ·obtain ⟨m, e1⟩ : ∃ m : Nat, Lib.index (b.drop (i + 4)) [45, 45] = (m : Int) := ⟨(Lib.index (b.drop (i + 4)) [45, 45]).toNat, by omega⟩
  obtain ⟨e3, e2⟩ := index_occ e1 (by simp)
  rw [List.length_drop] at e2
  simp only [List.length_cons, List.length_nil, Nat.zero_add, Nat.reduceAdd] at e2
  rw [List.drop_drop] at e3
  rw [if_neg hn, if_neg hn, e1, Int.toNat_natCast, decide_eq_false (by omega), cond_false, show ((i + 4 : Nat) : Int) + (m : Int) = ((i + 4 + m : Nat) : Int) by omega, stands_at b _ _ (by omega) hb (by decide), Option.bind_some]
  dsimp only
  rw [show ((0 : Int) != 0) = false from rfl, cond_false, sign_eq b (i + 4 + m + ([45, 45] : List UInt8).length) _ (by show i + 4 + m + 2 ≤ _; omega) hb, Option.bind_some]
  have hh : hereP b (i + 4 + m) [45, 45, 62] = hereP b (i + 4 + m + ([45, 45] : List UInt8).length) [62] := by
   have h0 : hereP b (i + 4 + m) [45, 45] = true := e3
   rw [hereP_cons, hereP_cons, hereP_nil, Bool.and_true, Bool.and_eq_true] at h0
   rw [hereP_cons, hereP_cons, h0.1, h0.2]; rfl
  rw [hh]
  cases hh2 : hereP b (i + 4 + m + ([45, 45] : List UInt8).length) [62] with
  | false => rw [if_neg (c := false = true) (by simp)]; exact ⟨_, _, rfl, rfl, tokS_bad (e := 23) (by decide)⟩
  | true =>
   have hl := hereP_len hh2 (by show i + 4 + m + 2 ≤ _; omega)
   have hl : i + 4 + m + 2 + 1 ≤ b.length := hl
   rw [if_pos rfl, Bool.not_true, cond_false, slc_seg (by omega) (by omega), Option.bind_some, w64 (by omega) (by omega), show i + 4 + m - (i + 4) = m by omega]
   exact ⟨_, _, rfl, rfl, rfl, fun _ => ⟨by show ((_ : Nat) : Int) = _; simp; omega, ⟨rfl, rfl, rfl, rfl, rfl⟩⟩⟩
theorem cdata_two (b : List UInt8) (i : Nat) (hi : i + 9 ≤ b.length) (hb : b.length ≤ 1073741824) : ∃ x y, F_scan_scanner_upTo ⟨b, (i : Int)⟩ (tokK 6 i) (9 : Int) ([93, 93, 62] : List UInt8) = some x ∧
  ((F_lecternref03_Find b (IntKind.wrap .i64 ((i : Int) + (9 : Int))) ([93, 93, 62] : List UInt8)).bind fun x23 =>
     cond (decide (x23 < (0 : Int)))
     (some (tk0, (0 : Int), (23 : Int)))
     ((slc b (IntKind.wrap .i64 ((i : Int) + (9 : Int))) x23).bind fun x25 =>
     some ((⟨(6 : Int), (0 : Int), ([] : List UInt8), ([] : List T_scan_Pair), x25, (0 : Int)⟩ : T_lecternref03_Token), (IntKind.wrap .i64 (x23 + (3 : Int))), (0 : Int)))) = some y ∧ TokS x y := by
 have hup := upTo_eq b i 9 (tokK 6 i) [93, 93, 62] (by simp) hi hb (by decide)
 rw [show ((9 : Nat) : Int) = 9 from rfl] at hup
 rw [hup, w64 (x := (i : Int) + 9) (by omega) (by omega), show (i : Int) + 9 = ((i + 9 : Nat) : Int) by omega, find_at b _ _ hi hb (by simp) (by decide), Option.bind_some]
 by_cases hn : Lib.index (b.drop (i + 9)) [93, 93, 62] < 0
 ·rw [if_pos hn, if_pos hn]
  exact ⟨_, _, rfl, rfl, tokS_bad (e := 23) (by decide)⟩
 ·obtain ⟨m, e1⟩ : ∃ m : Nat, Lib.index (b.drop (i + 9)) [93, 93, 62] = (m : Int) := ⟨(Lib.index (b.drop (i + 9)) [93, 93, 62]).toNat, by omega⟩
  obtain ⟨_, e2⟩ := index_occ e1 (by simp)
  rw [List.length_drop] at e2
  simp only [List.length_cons, List.length_nil, Nat.zero_add, Nat.reduceAdd] at e2
  rw [if_neg hn, if_neg hn, e1, Int.toNat_natCast, decide_eq_false (by omega), cond_false, show ((i + 9 : Nat) : Int) + (m : Int) = ((i + 9 + m : Nat) : Int) by omega, slc_seg (by omega) (by omega), Option.bind_some, show i + 9 + m - (i + 9) = m by omega, w64 (by omega) (by omega)]
  exact ⟨_, _, rfl, rfl, rfl, fun _ => ⟨by show ((_ : Nat) : Int) = _; simp, ⟨rfl, rfl, rfl, rfl, rfl⟩⟩⟩
end Go.Proofs.YtfokkdofcekdbaaGreatDoor

set_option linter.unusedSimpArgs false
set_option linter.unusedVariables false
set_option maxRecDepth 20000
namespace Go.Proofs.YtfokkdofcekdbaaGreatDoor
open Go.Lib (decodeL decodeN)
theorem any_lp {α σ ρ : Type} {b : (σ → Option ρ) → σ → Option ρ} (l : List α) (P : α → Bool) (f : Nat → σ) (r e : ρ)
  (hs : ∀ (rec : σ → Option ρ) (k : Nat) (h : k < l.length), b rec (f k) = cond (P l[k]) (some r) (rec (f (k + 1))))
  (he : ∀ rec : σ → Option ρ, b rec (f l.length) = some e) : ∀ (n k : Nat), k ≤ l.length → l.length - k < n → iter b n (f k) = some (if (l.drop k).any P = true then r else e)
 | 0, k, _, h => by omega
 | n + 1, k, hk, h => by
  rw [iter_succ]
  by_cases hl : k < l.length
  ·rw [hs _ k hl, List.drop_eq_getElem_cons hl, List.any_cons]
   cases P l[k] with
   | true => rw [cond_true, Bool.true_or, if_pos rfl]
   | false => rw [cond_false, Bool.false_or, any_lp l P f r e hs he n (k + 1) (by omega) (by omega)]
  ·have : k = l.length := by omega
   subst this
   rw [he, List.drop_length]; rfl
theorem dup_s (k At : Int) (Nm : List UInt8) (ps : List T_scan_Pair) (Tx : List UInt8) (rf : Int) (x27 x31 : ((List UInt8) × Int) × T_scan_scanner) (hl : ps.length ≤ 1073741824) :
  iter (F_scan_scanner_tag_l1 k At Nm ps Tx rf x27 x31) FUEL (0 : Int) = some (if (ps.any fun p => p.Name == x27.1.1) = true then .inr ((27 : Int), x31.2, ⟨k, At, Nm, ps, Tx, rf⟩) else .inl ()) := by
 have := any_lp (b := F_scan_scanner_tag_l1 k At Nm ps Tx rf x27 x31) ps (fun p => p.Name == x27.1.1) (fun n => (n : Int)) (.inr ((27 : Int), x31.2, ⟨k, At, Nm, ps, Tx, rf⟩)) (.inl ()) (fun rec i hi => by
  unfold F_scan_scanner_tag_l1
  rw [decide_eq_true (by omega), cond_true, idx_some hi, Option.bind_some, w64 (x := (i : Int) + 1) (by omega) (by omega)]
  rfl) (fun rec => by
  unfold F_scan_scanner_tag_l1
  rw [decide_eq_false (by omega), cond_false]) FUEL 0 (Nat.zero_le _) (by unfold FUEL; omega)
 rw [List.drop_zero] at this
 exact this
theorem dup_r (ps : List T_scan_Pair) (x30 : (List UInt8) × Int × Int) (hl : ps.length ≤ 1073741824) :
  iter (F_lecternref03_tag_l1 ps x30) FUEL ((0 : Int), (0 : Int), ([] : List UInt8), ([] : List T_scan_Pair), ([] : List UInt8), (0 : Int), (0 : Int)) = some (if (ps.any fun p => p.Name == x30.1) = true then .inr (tk0, (0 : Int), (27 : Int)) else .inl ((0 : Int), (0 : Int), ([] : List UInt8), ([] : List T_scan_Pair), ([] : List UInt8), (0 : Int))) := by
 have := any_lp (b := F_lecternref03_tag_l1 ps x30) ps (fun p => p.Name == x30.1) (fun n => ((0 : Int), (0 : Int), ([] : List UInt8), ([] : List T_scan_Pair), ([] : List UInt8), (0 : Int), (n : Int))) (.inr (tk0, (0 : Int), (27 : Int))) (.inl ((0 : Int), (0 : Int), ([] : List UInt8), ([] : List T_scan_Pair), ([] : List UInt8), (0 : Int))) (fun rec i hi => by
  unfold F_lecternref03_tag_l1
  dsimp only
  rw [decide_eq_true (by omega), cond_true, idx_some hi, Option.bind_some, w64 (x := (i : Int) + 1) (by omega) (by omega)]
  rfl) (fun rec => by
  unfold F_lecternref03_tag_l1
  dsimp only
  rw [decide_eq_false (by omega), cond_false]) FUEL 0 (Nat.zero_le _) (by unfold FUEL; omega)
 rw [List.drop_zero] at this
 exact this
theorem okT_sk {b : List UInt8} {j : Nat} (h : OkT b) (hj : j ≤ b.length) (hlt : j < sk wsP b j) : OkT (b.drop (sk wsP b j)) := by
 obtain ⟨c, h1, h2⟩ := sk_all (P := wsP) (s := b) (i := j) (k := sk wsP b j - 1) (sk wsP b j - 1 - j) (by omega) (by omega)
 have := (okT_at h h1 (ws_lo c h2)).2
 rwa [show sk wsP b j - 1 + 1 = sk wsP b j by omega] at this
theorem tag_two (b : List UInt8) (i : Nat) (hi : i + 1 ≤ b.length) (hb' : b.length ≤ 65536) (hok : OkT b) (h60 : b[i]? = some 60) : ∃ x y, F_scan_scanner_tag ⟨b, (i : Int)⟩ (tok0 i) = some x ∧ F_lecternref03_tag b (IntKind.wrap .i64 ((i : Int) + (1 : Int))) = some y ∧ TokS x y := by
 have hb : b.length ≤ 1073741824 := by omega
 obtain ⟨v, e, j, h1, h2, h3, h4, h5⟩ := written_two b (i + 1) hi hb (okT_at hok h60 (by decide)).2
 unfold F_scan_scanner_tag F_lecternref03_tag
 dsimp only
 rw [w64 (x := (i : Int) + 1) (by omega) (by omega), show (i : Int) + 1 = ((i + 1 : Nat) : Int) by omega, h1, h2, Option.bind_some, Option.bind_some]
 by_cases he : e = 0
 case neg =>
  rw [if_neg he]
  dsimp only
  rw [show (e != 0) = true by simpa using he, cond_true, cond_true]
  exact ⟨_, _, rfl, rfl, tokS_bad he⟩
 subst he
 rw [if_pos rfl]
 dsimp only
 rw [show ((0 : Int) != 0) = false from rfl, cond_false, cond_false]
 suffices hloop : ∃ o q, iter F_scan_scanner_tag_l0 FUEL (b, (j : Int), (2 : Int), (i : Int), v, ([] : List T_scan_Pair), ([] : List UInt8), (0 : Int), ([] : List UInt8), ([] : List UInt8)) = some o ∧
   iter (F_lecternref03_tag_l0 b) FUEL ((0 : Int), (0 : Int), ([] : List UInt8), ([] : List T_scan_Pair), ([] : List UInt8), (0 : Int), (j : Int), (2 : Int), (0 : Int), v, ([] : List T_scan_Pair), ([] : List UInt8), (0 : Int)) = some q ∧ TokS o q by
  obtain ⟨o, q, e1, e2, e3⟩ := hloop
  rw [e1, e2]
  exact ⟨_, _, rfl, rfl, e3⟩
 refine iter_two (b := F_scan_scanner_tag_l0) (c := F_lecternref03_tag_l0 b) (fun x => b.length - x.2.1.toNat) (fun x y => ∃ (j : Nat) (ps : List T_scan_Pair) (u1 u2 : List UInt8), x = (b, (j : Int), (2 : Int), (i : Int), v, ps, ([] : List UInt8), (0 : Int), u1, u2) ∧
  y = ((0 : Int), (0 : Int), ([] : List UInt8), ([] : List T_scan_Pair), ([] : List UInt8), (0 : Int), (j : Int), (2 : Int), (0 : Int), v, ps, ([] : List UInt8), (0 : Int)) ∧ j ≤ b.length ∧ ps.length ≤ j) _ ?_ FUEL FUEL _ _ ⟨j, [], [], [], rfl, rfl, h4, by simp⟩ (by unfold FUEL; dsimp only; omega) (by unfold FUEL; dsimp only; omega)
 clear h1 h2 h3 h4 h5
 rintro _ _ ⟨j, ps, u1, u2, rfl, rfl, g1, g2⟩
 obtain ⟨s1, s2⟩ := sk_le wsP b j g1
 have preS : ∀ rec, F_scan_scanner_tag_l0 rec (b, (j : Int), (2 : Int), (i : Int), v, ps, ([] : List UInt8), (0 : Int), u1, u2) =
   cond (hereP b (sk wsP b j) [47, 62]) (some (0, ⟨b, ((sk wsP b j + 2 : Nat) : Int)⟩, ⟨4, (i : Int), v, ps, [], 0⟩)) (cond (hereP b (sk wsP b j) [62]) (some (0, ⟨b, ((sk wsP b j + 1 : Nat) : Int)⟩, ⟨2, (i : Int), v, ps, [], 0⟩))
   (cond (((sk wsP b j : Nat) : Int) == (j : Int)) (some ((23 : Int), (⟨b, ((sk wsP b j : Nat) : Int)⟩ : T_scan_scanner), (⟨2, (i : Int), v, ps, [], 0⟩ : T_scan_Token)))
   ((F_scan_scanner_name (⟨b, ((sk wsP b j : Nat) : Int)⟩ : T_scan_scanner)).bind fun x27 =>
   cond (x27.1.2 != (0 : Int))
   (some (x27.1.2, x27.2, (⟨2, (i : Int), v, ps, [], 0⟩ : T_scan_Token)))
   ((F_scan_scanner_equals x27.2).bind fun x29 =>
   cond (x29.1 != (0 : Int))
    (some (x29.1, x29.2, (⟨2, (i : Int), v, ps, [], 0⟩ : T_scan_Token)))
    ((F_scan_scanner_quoted x29.2).bind fun x31 =>
    cond (x31.1.2 != (0 : Int))
    (some (x31.1.2, x31.2, (⟨2, (i : Int), v, ps, [], 0⟩ : T_scan_Token)))
    ((F_refer_ReadValue x31.1.1).bind fun x33 =>
    cond (x33.2.2 != (0 : Int))
     (some (x33.2.2, x31.2, (⟨2, (i : Int), v, ps, [], 0⟩ : T_scan_Token)))
     (cond (ps.any fun p => p.Name == x27.1.1) (some ((27 : Int), x31.2, ⟨2, (i : Int), v, ps, [], 0⟩))
     ((app 32 ps [(⟨x27.1.1, x33.1⟩ : T_scan_Pair)]).bind fun _ =>
      (some (ps ++ [(⟨x27.1.1, x33.1⟩ : T_scan_Pair)])).bind fun a51 =>
     rec (x31.2.b, x31.2.at_, (2 : Int), (i : Int), v, a51, [], 0, x27.1.1, x33.1))))))))) := by
  intro rec
  unfold F_scan_scanner_tag_l0
  dsimp only
  rw [spaces_eq b _ j g1 hb, Option.bind_some, here_eq b _ _ s2, Option.bind_some, here_eq b _ _ s2, sign_eq b _ _ s2 hb, sign_eq b _ _ s2 hb, Option.bind_some]
  cases c1 : hereP b (sk wsP b j) [47, 62] with
  | true => rw [cond_true, cond_true, if_pos rfl]; rfl
  | false =>
   rw [cond_false, cond_false, Option.bind_some]
   cases c2 : hereP b (sk wsP b j) [62] with
   | true => rw [cond_true, cond_true, if_pos rfl]; rfl
   | false =>
    rw [cond_false, cond_false]
    simp only [letJ, dup_s _ _ _ ps _ _ _ _ (show ps.length ≤ 1073741824 by omega), Option.bind_some]
    cases ((sk wsP b j : Nat) : Int) == (j : Int) with
    | true => rfl
    | false =>
     rw [cond_false, cond_false]
     congr 1; funext x27
     congr 1
     congr 1; funext x29
     congr 1
     congr 1; funext x31
     congr 1
     congr 1; funext x33
     congr 1
     cases ps.any fun p => p.Name == x27.1.1 <;> rfl
 have preR : ∀ rec, F_lecternref03_tag_l0 b rec ((0 : Int), (0 : Int), ([] : List UInt8), ([] : List T_scan_Pair), ([] : List UInt8), (0 : Int), (j : Int), (2 : Int), (0 : Int), v, ps, ([] : List UInt8), (0 : Int)) =
   cond (hereP b (sk wsP b j) [62]) (some (⟨2, 0, v, ps, [], 0⟩, ((sk wsP b j + 1 : Nat) : Int), 0)) (cond (hereP b (sk wsP b j) [47, 62]) (some (⟨4, 0, v, ps, [], 0⟩, ((sk wsP b j + 2 : Nat) : Int), 0))
   (cond (((sk wsP b j : Nat) : Int) == (j : Int)) (some (tk0, (0 : Int), (23 : Int)))
   ((F_lecternref03_written b ((sk wsP b j : Nat) : Int)).bind fun x30 =>
   cond (x30.2.2 != (0 : Int))
   (some (tk0, (0 : Int), x30.2.2))
   ((F_lecternref03_value b x30.2.1).bind fun x32 =>
   cond (decide (x32.2 < (0 : Int)))
    (some (tk0, (0 : Int), (23 : Int)))
    ((F_lecternref02_Read x32.1 true).bind fun x34 =>
    cond (x34.2.2 != (0 : Int))
    (some (tk0, (0 : Int), x34.2.2))
    (cond (ps.any fun p => p.Name == x30.1) (some (tk0, (0 : Int), (27 : Int)))
     ((app 32 ps [(⟨x30.1, x34.1⟩ : T_scan_Pair)]).bind fun _ =>
     rec ((0 : Int), (0 : Int), ([] : List UInt8), ([] : List T_scan_Pair), ([] : List UInt8), (0 : Int), x32.2, (2 : Int), (0 : Int), v, (ps ++ [(⟨x30.1, x34.1⟩ : T_scan_Pair)]), ([] : List UInt8), (0 : Int))))))))) := by
  intro rec
  unfold F_lecternref03_tag_l0
  dsimp only
  rw [white_at b j g1 hb, Option.bind_some, stands_at b _ _ s2 hb (by decide), Option.bind_some, stands_at b _ _ s2 hb (by decide)]
  cases c2 : hereP b (sk wsP b j) [62] with
  | true =>
   have hl := hereP_len c2 s2
   simp only [List.length_cons, List.length_nil, Nat.zero_add] at hl
   rw [cond_true, cond_true, w64 (by omega) (by omega)]; rfl
  | false =>
   rw [cond_false, cond_false, Option.bind_some]
   cases c1 : hereP b (sk wsP b j) [47, 62] with
   | true =>
    have hl := hereP_len c1 s2
    simp only [List.length_cons, List.length_nil, Nat.zero_add, Nat.reduceAdd] at hl
    rw [cond_true, cond_true, w64 (by omega) (by omega)]; rfl
   | false =>
    rw [cond_false, cond_false]
    simp only [letJ, dup_r ps _ (show ps.length ≤ 1073741824 by omega), Option.bind_some]
    cases ((sk wsP b j : Nat) : Int) == (j : Int) with
    | true => rfl
    | false =>
     rw [cond_false, cond_false]
     congr 1; funext x30
     congr 1
     congr 1; funext x32
     congr 1
     congr 1; funext x34
     congr 1
     cases ps.any fun p => p.Name == x30.1 <;> rfl
 cases c1 : hereP b (sk wsP b j) [47, 62] with
 | true =>
  have c2 : hereP b (sk wsP b j) [62] = false := by
   have := hereP_get c1
   rw [hereP_one, this]; rfl
  rw [c1, c2] at preS preR
  exact .inr ⟨_, _, preS, preR, rfl, fun _ => ⟨rfl, ⟨rfl, rfl, rfl, rfl, rfl⟩⟩⟩
 | false =>
  cases c2 : hereP b (sk wsP b j) [62] with
  | true =>
   rw [c1, c2] at preS preR
   exact .inr ⟨_, _, preS, preR, rfl, fun _ => ⟨rfl, ⟨rfl, rfl, rfl, rfl, rfl⟩⟩⟩
  | false =>
   rw [c1, c2] at preS preR
   cases c3 : (((sk wsP b j : Nat) : Int) == (j : Int)) with
   | true =>
    rw [c3] at preS preR
    exact .inr ⟨_, _, preS, preR, tokS_bad (e := 23) (by decide)⟩
   | false =>
    rw [c3] at preS preR
    simp only [cond_false] at preS preR
    have hlt : j < sk wsP b j := by rw [beq_eq_false_iff_ne] at c3; omega
    obtain ⟨nm, e, j2, n1, n2, n3, n4, n5⟩ := written_two b (sk wsP b j) s2 hb (okT_sk hok g1 hlt)
    rw [n1] at preS
    rw [n2] at preR
    simp only [Option.bind_some] at preS preR
    by_cases he : e = 0
    case neg =>
     rw [if_neg he] at preR
     rw [show (e != 0) = true by simpa using he] at preS preR
     exact .inr ⟨_, _, preS, preR, tokS_bad he⟩
    subst he
    obtain ⟨n5, _, _⟩ := n5 rfl
    rw [if_pos rfl] at preR
    simp only [show ((0 : Int) != 0) = false from rfl, cond_false, equals_eq b j2 n4 hb, value_two b j2 n4 hb, Option.bind_some] at preS preR
    obtain ⟨p1, p2⟩ := sk_le wsP b j2 n4
    cases h61 : hereP b (sk wsP b j2) [61] with
    | false =>
     rw [h61] at preS preR
     exact .inr ⟨_, _, preS, preR, tokS_bad (e := 23) (by decide)⟩
    | true =>
     have hl61 := hereP_len h61 p2
     simp only [List.length_cons, List.length_nil, Nat.zero_add] at hl61
     obtain ⟨t1, t2⟩ := sk_le wsP b (sk wsP b j2 + 1) hl61
     simp only [h61, if_true, show ((0 : Int) != 0) = false from rfl, cond_false] at preS preR
     generalize sk wsP b (sk wsP b j2 + 1) = k2 at *
     rw [quoted_eq b k2 t2 hb] at preS
     simp only [Option.bind_some] at preS
     by_cases hq : (quo b k2).1.2 = 0
     case neg =>
      have hq23 := quo_no b k2 hq
      rw [if_neg hq] at preR
      rw [hq23] at preS
      exact .inr ⟨_, _, preS, preR, tokS_bad (e := 23) (by decide)⟩
     obtain ⟨rv, j3, hqv, v1, v2, v3⟩ := quo_ok b k2 t2 hb hq
     rw [if_pos hq] at preR
     rw [hqv] at preS preR
     dsimp only at preS preR
     obtain ⟨⟨tx, ep, er⟩, hr⟩ := read_some rv true (by omega)
     unfold F_refer_ReadValue at preS
     rw [hr] at preS
     rw [decide_eq_false (show ¬ (j3 : Int) < 0 by omega), read_two rv true (by omega), hr] at preR
     simp only [show ((0 : Int) != 0) = false from rfl, cond_false, Option.bind_some] at preS preR
     by_cases her : er = 0
     case neg =>
      rw [show (er != 0) = true by simpa using her] at preS preR
      exact .inr ⟨_, _, preS, preR, tokS_bad her⟩
     subst her
     simp only [show ((0 : Int) != 0) = false from rfl, cond_false] at preS preR
     cases hd : ps.any fun p => p.Name == nm with
     | true =>
      rw [hd] at preS preR
      exact .inr ⟨_, _, preS, preR, tokS_bad (e := 27) (by decide)⟩
     | false =>
      have happ : app 32 ps [(⟨nm, tx⟩ : T_scan_Pair)] = some (ps ++ [(⟨nm, tx⟩ : T_scan_Pair)]) := app_some (by simp; omega) (by simp; omega)
      rw [hd, happ] at preS preR
      exact .inl ⟨_, _, preS, preR, ⟨j3, ps ++ [(⟨nm, tx⟩ : T_scan_Pair)], nm, tx, rfl, rfl, v2, by simp; omega⟩, by dsimp only; rw [Int.toNat_natCast, Int.toNat_natCast]; omega⟩
end Go.Proofs.YtfokkdofcekdbaaGreatDoor

set_option linter.unusedSimpArgs false
set_option linter.unusedVariables false
set_option maxRecDepth 20000
namespace Go.Proofs.YtfokkdofcekdbaaGreatDoor
open Go.Lib (decodeL decodeN)
theorem cnt_loop (b : List UInt8) (f : Nat) (hf : f ≤ b.length) (hb : b.length ≤ 1073741824) : ∀ (n k : Nat) (c : Nat), k ≤ f → c ≤ k → f - k < n → iter (F_lecternref03_One_l0 b (f : Int)) n ((c : Int), (k : Int)) = some ((c + ((b.drop k).take (f - k)).count 38 : Nat) : Int)
 | 0, k, c, _, _, h => by omega
 | n + 1, k, c, hk, hc, h => by
  rw [iter_succ]
  unfold F_lecternref03_One_l0
  dsimp only
  by_cases hl : k < f
  ·have hkl : k < b.length := by omega
   rw [decide_eq_true (by omega), cond_true, idx_some hkl, w64 (x := (c : Int) + 1) (by omega) (by omega), w64 (x := (k : Int) + 1) (by omega) (by omega)]
   simp only [letJ, Option.bind_some]
   have hseg : (b.drop k).take (f - k) = b[k] :: (b.drop (k + 1)).take (f - (k + 1)) := by
    rw [List.drop_eq_getElem_cons hkl, show f - k = (f - (k + 1)) + 1 by omega, List.take_succ_cons]
   rw [hseg, List.count_cons, show (38 : Int) = ((38 : Nat) : Int) from rfl, byte_is _ 38 (by decide)]
   have e : (b[k] == UInt8.ofNat 38) = (b[k] == 38) := rfl
   rw [e, show (k : Int) + 1 = ((k + 1 : Nat) : Int) by omega, show (c : Int) + 1 = ((c + 1 : Nat) : Int) by omega]
   have r1 := cnt_loop b f hf hb n (k + 1) (c + 1) (by omega) (by omega) (by omega)
   have r2 := cnt_loop b f hf hb n (k + 1) c (by omega) (by omega) (by omega)
   unfold F_lecternref03_One_l0 at r1 r2
   cases b[k] == 38 with
   | true => rw [cond_true, if_pos rfl]; refine r1.trans ?_; congr 2; omega
   | false => rw [cond_false, if_neg (by simp)]; refine r2.trans ?_; congr 2
  ·have : k = f := by omega
   subst this
   rw [decide_eq_false (by omega), cond_false, Nat.sub_self, List.take_zero]; rfl
abbrev textRef (b : List UInt8) (i : Int) : Option (T_lecternref03_Token × Int × Int) :=
 ((F_lecternref03_Find b i ([60] : List UInt8)).bind fun x43 =>
       letJ (fun a45 : Int =>
        (slc b i a45).bind fun x48 =>
        (F_lecternref02_Read x48 false).bind fun x49 =>
        cond (x49.2.2 != (0 : Int))
        (some (tk0, (0 : Int), x49.2.2))
        (letJ (fun a59 : Int =>
         some ((⟨(5 : Int), (0 : Int), ([] : List UInt8), ([] : List T_scan_Pair), x49.1, a59⟩ : T_lecternref03_Token), a45, (0 : Int))) fun J60 =>
         (iter (F_lecternref03_One_l0 b a45) FUEL ((0 : Int), i)).bind fun o =>
        J60 o)) fun J46 =>
       cond (decide (x43 < (0 : Int)))
        (J46 (b.length : Int))
        (J46 x43))
theorem cnt_from (b : List UInt8) (i f : Nat) (hf : f ≤ b.length) (hif : i ≤ f) (hb : b.length ≤ 1073741824) : iter (F_lecternref03_One_l0 b (f : Int)) FUEL ((0 : Int), (i : Int)) = some ((((b.drop i).take (f - i)).count 38 : Nat) : Int) := by
 have := cnt_loop b f hf hb FUEL i 0 hif (Nat.zero_le _) (by unfold FUEL; omega)
 rw [Nat.zero_add] at this
 exact this
theorem text_two (b : List UInt8) (i : Nat) (hi : i < b.length) (hb : b.length ≤ 1073741824) (h60 : b[i]? ≠ some 60) : ∃ x y, F_scan_scanner_text ⟨b, (i : Int)⟩ (tok0 i) = some x ∧ textRef b (i : Int) = some y ∧ TokS x y := by
 obtain ⟨f, T⟩ := text_ex hi h60
 obtain ⟨t1, t2, t3, t4⟩ := T
 have hseg : ((b.drop i).take (f - i)).length ≤ 1073741824 := by rw [List.length_take, List.length_drop]; omega
 obtain ⟨⟨tx, ep, er⟩, hr⟩ := read_some ((b.drop i).take (f - i)) false hseg
 rw [text_mk hb ⟨t1, t2, t3, t4⟩]
 unfold textR F_refer_ReadText L_bCount
 rw [hr, Option.bind_some, Option.bind_some, Option.bind_some]
 have core : ((slc b (i : Int) (f : Int)).bind fun x48 =>
        (F_lecternref02_Read x48 false).bind fun x49 =>
        cond (x49.2.2 != (0 : Int))
        (some (tk0, (0 : Int), x49.2.2))
        ((iter (F_lecternref03_One_l0 b (f : Int)) FUEL ((0 : Int), (i : Int))).bind fun o =>
        some ((⟨(5 : Int), (0 : Int), ([] : List UInt8), ([] : List T_scan_Pair), x49.1, o⟩ : T_lecternref03_Token), (f : Int), (0 : Int)))) = some (if er = 0 then (⟨(5 : Int), (0 : Int), [], [], tx, ((((b.drop i).take (f - i)).count 38 : Nat) : Int)⟩, (f : Int), 0) else (tk0, 0, er)) := by
  rw [slc_seg (Nat.le_of_lt t1) t2, Option.bind_some, read_two _ false hseg, hr, Option.bind_some, cnt_from b i f t2 (Nat.le_of_lt t1) hb]
  dsimp only
  by_cases he : er = 0
  ·subst he
   rw [show ((0 : Int) != 0) = false from rfl, cond_false, if_pos rfl]; rfl
  ·rw [show (er != 0) = true by simpa using he, cond_true, if_neg he]
 have hfin : ∃ y, some (if er = 0 then (⟨(5 : Int), (0 : Int), [], [], tx, ((((b.drop i).take (f - i)).count 38 : Nat) : Int)⟩, (f : Int), 0) else (tk0, 0, er)) = some y ∧ TokS (er, (⟨b, (f : Int)⟩ : T_scan_scanner), (⟨(5 : Int), (i : Int), [], [], tx, ((Lib.countByte ((b.drop i).take (f - i)) 38 : Nat) : Int)⟩ : Tk)) y := by
  by_cases he : er = 0
  ·subst he
   rw [if_pos rfl]
   exact ⟨_, rfl, rfl, fun _ => ⟨rfl, ⟨rfl, rfl, rfl, rfl, rfl⟩⟩⟩
  ·rw [if_neg he]
   exact ⟨_, rfl, tokS_bad he⟩
 obtain ⟨y, hy1, hy2⟩ := hfin
 refine ⟨_, y, rfl, ?_, hy2⟩
 rw [← hy1, ← core]
 unfold textRef
 simp only [letJ]
 rw [find_at b i _ (Nat.le_of_lt hi) hb (by simp) (by decide), Option.bind_some, index_one]
 by_cases hf : f = b.length
 ·have hno : Lib.indexByte (b.drop i) 60 < 0 := by
   by_cases hn : Lib.indexByte (b.drop i) 60 < 0
   ·exact hn
   ·obtain ⟨m, e1, e2⟩ := ixB_nat _ _ hn
    have := (Lib.indexByte_some e1).1
    rw [List.getElem?_drop] at this
    rw [List.length_drop] at e2
    exact absurd this (t3 (i + m) (by omega) (by omega))
  rw [if_pos hno, show decide ((-1 : Int) < 0) = true from rfl, cond_true, ← hf]
 ·have hx : Lib.indexByte (b.drop i) 60 = ((f - i : Nat) : Int) := by
   refine ixB_of ?_ fun k hk => ?_
   ·rw [List.getElem?_drop, show i + (f - i) = f by omega]
    rcases t4 with h4 | h4
    ·exact absurd h4 hf
    ·exact h4
   ·rw [List.getElem?_drop]; exact t3 (i + k) (by omega) (by omega)
  rw [hx, if_neg (by omega), decide_eq_false (by omega), cond_false, show (i : Int) + ((f - i : Nat) : Int) = (f : Int) by omega]
abbrev commentRef (b : List UInt8) (i : Int) : Option (T_lecternref03_Token × Int × Int) :=
 ((F_lecternref03_Find b (IntKind.wrap .i64 (i + (4 : Int))) ([45, 45] : List UInt8)).bind fun x14 =>
     (letJ (fun v17 : Bool => cond v17
      (some (tk0, (0 : Int), (23 : Int)))
      ((slc b (IntKind.wrap .i64 (i + (4 : Int))) x14).bind fun x20 =>
      some ((⟨(7 : Int), (0 : Int), ([] : List UInt8), ([] : List T_scan_Pair), x20, (0 : Int)⟩ : T_lecternref03_Token), (IntKind.wrap .i64 (x14 + (3 : Int))), (0 : Int)))) fun J16 => cond (decide (x14 < (0 : Int))) (J16 true) ((F_lecternref03_Stands b x14 ([45, 45, 62] : List UInt8)).bind fun x18 =>
     J16 (!x18))))
abbrev cdataRef (b : List UInt8) (i : Int) : Option (T_lecternref03_Token × Int × Int) :=
 ((F_lecternref03_Find b (IntKind.wrap .i64 (i + (9 : Int))) ([93, 93, 62] : List UInt8)).bind fun x23 =>
     cond (decide (x23 < (0 : Int)))
     (some (tk0, (0 : Int), (23 : Int)))
     ((slc b (IntKind.wrap .i64 (i + (9 : Int))) x23).bind fun x25 =>
     some ((⟨(6 : Int), (0 : Int), ([] : List UInt8), ([] : List T_scan_Pair), x25, (0 : Int)⟩ : T_lecternref03_Token), (IntKind.wrap .i64 (x23 + (3 : Int))), (0 : Int))))
abbrev closingRef (b : List UInt8) (i : Int) : Option (T_lecternref03_Token × Int × Int) :=
 ((F_lecternref03_written b (IntKind.wrap .i64 (i + (2 : Int)))).bind fun x35 =>
       cond (x35.2.2 != (0 : Int))
       (some (tk0, (0 : Int), x35.2.2))
       ((F_lecternref03_White b x35.2.1).bind fun x37 =>
        (F_lecternref03_Stands b x37 ([62] : List UInt8)).bind fun x38 =>
       cond (!x38)
        (some (tk0, (0 : Int), (23 : Int)))
        (some ((⟨(3 : Int), (0 : Int), x35.1, ([] : List T_scan_Pair), ([] : List UInt8), (0 : Int)⟩ : T_lecternref03_Token), (IntKind.wrap .i64 (x37 + (1 : Int))), (0 : Int)))))
def oneRest (b : List UInt8) (i : Nat) : Option (T_lecternref03_Token × Int × Int) :=
 cond (hereP b i [60, 33, 45, 45]) (commentRef b i)
 (cond (hereP b i [60, 33, 91, 67, 68, 65, 84, 65, 91]) (cdataRef b i)
 (cond (hereP b i [60, 33, 68, 79, 67, 84, 89, 80, 69]) (some (tk0, 0, 25))
 (cond (hereP b i [60, 33]) (some (tk0, 0, 23))
 (cond (hereP b i [60, 63]) (F_lecternref03_instruction b (IntKind.wrap .i64 ((i : Int) + (2 : Int))))
 (cond (hereP b i [60, 47]) (closingRef b i)
 (cond (hereP b i [60]) (F_lecternref03_tag b (IntKind.wrap .i64 ((i : Int) + (1 : Int)))) (textRef b i)))))))
theorem bind_eta3 (o : Option (T_lecternref03_Token × Int × Int)) : (o.bind fun x => some (x.1, x.2.1, x.2.2)) = o := by cases o <;> rfl
theorem one_eq (b : List UInt8) (i : Nat) (hi : i < b.length) (hb : b.length ≤ 1073741824) : F_lecternref03_One b (i : Int) = cond (declP b i) (F_lecternref03_declaration b) (oneRest b i) := by
 have hle := Nat.le_of_lt hi
 unfold F_lecternref03_One
 simp only [letJ, bind_eta3]
 rw [stands_at b i [60, 33, 45, 45] hle hb (by decide), stands_at b i [60, 33, 91, 67, 68, 65, 84, 65, 91] hle hb (by decide), stands_at b i [60, 33, 68, 79, 67, 84, 89, 80, 69] hle hb (by decide), stands_at b i [60, 33] hle hb (by decide), stands_at b i [60, 63] hle hb (by decide), stands_at b i [60, 47] hle hb (by decide), idx_some hi]
 have h60 : ((b[i].toNat : Int) == 60) = hereP b i [60] := by
  rw [show (60 : Int) = ((60 : Nat) : Int) from rfl, byte_is _ 60 (by decide), hereP_one, List.getElem?_eq_getElem hi]; rfl
 simp only [Option.bind_some, h60]
 unfold declP
 by_cases h0 : i = 0
 ·subst h0
  rw [show (((0 : Nat) : Int) == 0) = true from rfl, cond_true, show (0 : Int) = ((0 : Nat) : Int) from rfl, stands_at b 0 [60, 63, 120, 109, 108] hle hb (by decide), Option.bind_some, decide_eq_true rfl, Bool.true_and]
  cases hx : hereP b 0 [60, 63, 120, 109, 108] with
  | false =>
   rw [cond_false, cond_false, Bool.false_and, cond_false]
   unfold oneRest commentRef cdataRef closingRef textRef
   simp only [letJ]
   rfl
  | true =>
   have hl := hereP_len hx hle
   simp only [List.length_cons, List.length_nil, Nat.zero_add, Nat.reduceAdd] at hl
   rw [cond_true, show (5 : Int) = ((5 : Nat) : Int) from rfl, white_at b 5 hl hb, Option.bind_some, Bool.true_and]
   have e : decide (((5 : Nat) : Int) < ((sk wsP b 5 : Nat) : Int)) = decide (5 < sk wsP b 5) := by rw [decide_eq_decide]; omega
   rw [e]
   cases decide (5 < sk wsP b 5) with
   | true => rfl
   | false =>
    rw [cond_false, cond_false]
    unfold oneRest commentRef cdataRef closingRef textRef
    simp only [letJ]
    rfl
 ·rw [show ((i : Int) == 0) = false by rw [beq_eq_false_iff_ne]; omega, cond_false, cond_false, decide_eq_false h0, Bool.false_and, cond_false]
  unfold oneRest commentRef cdataRef closingRef textRef
  simp only [letJ]
  rfl
theorem token_two (b : List UInt8) (i : Nat) (hi : i < b.length) (hb' : b.length ≤ 65536) (hok : OkT b) : ∃ x y, F_scan_scanner_token ⟨b, (i : Int)⟩ (tok0 i) = some x ∧ F_lecternref03_One b (i : Int) = some y ∧ TokS x y := by
 have hb : b.length ≤ 1073741824 := by omega
 have hle := Nat.le_of_lt hi
 rw [token_eq b i hle hb, one_eq b i hi hb]
 cases hd : declP b i with
 | true =>
  unfold declP at hd
  simp only [Bool.and_eq_true, decide_eq_true_eq] at hd
  have hl := hereP_len hd.2.1 (Nat.zero_le _)
  simp only [List.length_cons, List.length_nil, Nat.zero_add, Nat.reduceAdd] at hl
  exact decl_two b hl hb
 | false =>
  rw [cond_false, cond_false]
  unfold tokRest oneRest
  have two : ∀ (c : UInt8), c.toNat < 128 → hereP b i [60, c] = true → i + 2 ≤ b.length ∧ OkT (b.drop (i + 2)) := by
   intro c hc h
   have hl := hereP_len h hle
   rw [hereP_cons, hereP_cons, hereP_nil, Bool.and_true, Bool.and_eq_true, beq_iff_eq, beq_iff_eq] at h
   exact ⟨hl, (okT_at hok h.2 hc).2⟩
  cases h1 : hereP b i [60, 33, 45, 45] with
  | true =>
   have hl := hereP_len h1 hle
   exact comment_two b i hl hb
  | false =>
  rw [cond_false, cond_false]
  cases h2 : hereP b i [60, 33, 91, 67, 68, 65, 84, 65, 91] with
  | true =>
   have hl := hereP_len h2 hle
   exact cdata_two b i hl hb
  | false =>
  rw [cond_false, cond_false]
  cases hereP b i [60, 33, 68, 79, 67, 84, 89, 80, 69] with
  | true => exact ⟨_, _, rfl, rfl, tokS_bad (e := 25) (by decide)⟩
  | false =>
  rw [cond_false, cond_false]
  cases hereP b i [60, 33] with
  | true => exact ⟨_, _, rfl, rfl, tokS_bad (e := 23) (by decide)⟩
  | false =>
  rw [cond_false, cond_false]
  cases h3 : hereP b i [60, 63] with
  | true => exact instr_two b i (two 63 (by decide) h3).1 hb (two 63 (by decide) h3).2
  | false =>
  rw [cond_false, cond_false]
  cases h4 : hereP b i [60, 47] with
  | true => exact closing_two b i (two 47 (by decide) h4).1 hb (two 47 (by decide) h4).2
  | false =>
  rw [cond_false, cond_false]
  cases h5 : hereP b i [60] with
  | true => exact tag_two b i hi hb' hok (hereP_get h5)
  | false =>
   exact text_two b i hi hb (by
    intro hc
    rw [hereP_one, hc] at h5
    cases h5)
end Go.Proofs.YtfokkdofcekdbaaGreatDoor

set_option linter.unusedSimpArgs false
set_option linter.unusedVariables false
set_option maxRecDepth 20000
namespace Go.Proofs.YtfokkdofcekdbaaGreatDoor
open Go.Lib (decodeL decodeN)
def docT (t : Tk) : T_lecternref03_Token := ⟨t.Kind, t.At, t.Name, t.Pairs, t.Text, t.Refs⟩
theorem allr_step {b : List UInt8} {L : List T_lecternref03_Token} {j : Nat} {r : T_lecternref03_Token} {n : Int} (hL : L.length ≤ 65536) (hj : j < b.length) (h : F_lecternref03_One b (j : Int) = some (r, n, 0)) (rec) : F_lecternref03_All_l0 b rec ((j : Int), L) = rec (n, L ++ [⟨r.Kind, (j : Int), r.Name, r.Pairs, r.Text, r.Refs⟩]) := by
 unfold F_lecternref03_All_l0
 dsimp only
 rw [decide_eq_true (by omega), cond_true, h, Option.bind_some]
 dsimp only
 rw [show ((0 : Int) != 0) = false from rfl, cond_false, app_some (by simp; omega) (by simp; omega), Option.bind_some]
theorem allr_bad {b : List UInt8} {L : List T_lecternref03_Token} {j : Nat} {r : T_lecternref03_Token} {n e : Int} (hj : j < b.length) (he : e ≠ 0) (h : F_lecternref03_One b (j : Int) = some (r, n, e)) (rec) : F_lecternref03_All_l0 b rec ((j : Int), L) = some (.inr ([], (j : Int), e)) := by
 unfold F_lecternref03_All_l0
 dsimp only
 rw [decide_eq_true (by omega), cond_true, h, Option.bind_some]
 dsimp only
 rw [show (e != 0) = true by simpa using he, cond_true]
theorem all_two_l0 (b : List UInt8) (hb : b.length ≤ 65536) (hok : OkT b) : ∃ o q, iter F_scan_All_l0 FUEL (b, (0 : Int), ([] : List T_scan_Token)) = some o ∧ iter (F_lecternref03_All_l0 b) FUEL ((0 : Int), ([] : List T_lecternref03_Token)) = some q ∧
  ((∃ L : List Tk, o = (L, 0, 0) ∧ q = .inl (L.map docT) ∧ L.length ≤ 65536 ∧ ∀ t ∈ L, t.Pairs.length ≤ 1073742000) ∨ (∃ (j : Nat) (e : Int), o = ([], (j : Int), e) ∧ q = .inr ([], (j : Int), e) ∧ e ≠ 0)) := by
 refine iter_two (b := F_scan_All_l0) (c := F_lecternref03_All_l0 b) (fun x => b.length - x.2.1.toNat) (fun x y => ∃ (j : Nat) (L : List Tk), x = (b, (j : Int), L) ∧ y = ((j : Int), L.map docT) ∧ j ≤ b.length ∧ L.length ≤ j ∧ ∀ t ∈ L, t.Pairs.length ≤ 1073742000) _ ?_ FUEL FUEL _ _ ⟨0, [], rfl, rfl, Nat.zero_le _, by simp, by simp⟩ (by unfold FUEL; dsimp only; omega) (by unfold FUEL; dsimp only; omega)
 rintro _ _ ⟨j, L, rfl, rfl, g1, g2, g3⟩
 by_cases hj : j = b.length
 ·right
  subst hj
  refine ⟨(L, 0, 0), .inl (L.map docT), fun rec => all_end b L rec, fun rec => ?_, .inl ⟨L, rfl, rfl, by omega, g3⟩⟩
  unfold F_lecternref03_All_l0
  dsimp only
  rw [decide_eq_false (by omega), cond_false]
 ·have hjl : j < b.length := by omega
  obtain ⟨x, t1, e, j2, t, rfl, t2, t3⟩ := token_sp b j hjl hb
  obtain ⟨x', ⟨r, n, e'⟩, u1, u2, u3, u4⟩ := token_two b j hjl hb hok
  have hx : x' = (e, ⟨b, (j2 : Int)⟩, t) := by
   have := u1.symm.trans t1
   exact Option.some.inj this
  subst hx
  dsimp only at u3 u4
  subst u3
  by_cases he : e = 0
  ·left
   subst he
   have t4 := t3 rfl
   obtain ⟨v1, v2⟩ := u4 rfl
   subst v1
   refine ⟨(b, (j2 : Int), L ++ [t]), _, fun rec => all_step (by omega) hjl t1 rec, fun rec => allr_step (by rw [List.length_map]; omega) hjl u2 rec, ⟨j2, L ++ [t], rfl, ?_, t2, by rw [List.length_append]; have := t4.lt; simp; omega, fun t' ht' => ?_⟩, by have := t4.lt; dsimp only; rw [Int.toNat_natCast, Int.toNat_natCast]; omega⟩
   ·rw [List.map_append, List.map_cons, List.map_nil]
    congr 2
    unfold docT
    rw [t4.at_, v2.k, v2.n, v2.p, v2.x, v2.f]
   ·rcases List.mem_append.1 ht' with h | h
    ·exact g3 t' h
    ·rw [List.mem_singleton] at h
     subst h
     have := t4.len; omega
  ·right
   exact ⟨_, _, fun rec => all_bad hjl he t1 rec, fun rec => allr_bad hjl he u2 rec, .inr ⟨j, e, rfl, rfl, he⟩⟩
theorem all_two (p : List UInt8) (hp : p.length ≤ 1073741824) : ∃ (L : List Tk) (a e : Int), F_scan_All p = some (L, a, e) ∧ F_lecternref03_All p = some (L.map docT, a, e) ∧ L.length ≤ 65536 ∧ ∀ t ∈ L, t.Pairs.length ≤ 1073742000 := by
 by_cases h6 : 65536 < p.length
 ·unfold F_scan_All F_lecternref03_All
  rw [decide_eq_true (by omega), cond_true, cond_true]
  exact ⟨[], 0, 6, rfl, rfl, by simp, by simp⟩
 ·have hpl := pln_len p
  unfold F_lecternref03_All
  rw [decide_eq_false (by omega), cond_false, text_eq p hp, Option.bind_some, F_fault _ (by omega), all_eq p (by omega)]
  simp only [letJ]
  rcases fault_iff (pln p) (by omega) with ⟨f1, f2⟩ | ⟨i, e, f1, f2, _⟩
  ·rw [f1, Option.bind_some, Option.bind_some]
   dsimp only
   rw [show ((0 : Int) != 0) = false from rfl, cond_false, cond_false]
   obtain ⟨o, q, e1, e2, e3⟩ := all_two_l0 (pln p) (by omega) f2
   rw [e1, e2, Option.bind_some]
   rcases e3 with ⟨L, rfl, rfl, h1, h2⟩ | ⟨j, e, rfl, rfl, h1⟩
   ·exact ⟨L, 0, 0, rfl, rfl, h1, h2⟩
   ·exact ⟨[], _, e, rfl, rfl, by simp, by simp⟩
  ·rw [f1, Option.bind_some, Option.bind_some]
   dsimp only
   rw [show (e != 0) = true by simpa using f2, cond_true, cond_true]
   exact ⟨[], _, e, rfl, rfl, by simp, by simp⟩
theorem spare_eq (p : List UInt8) (hp : p.length ≤ 1073741824) : F_lecternref01_Spare p = some (p, [165]) := by
 unfold F_lecternref01_Spare mkG
 rw [w64 (by omega) (by omega), if_pos (by omega), Option.bind_some, Option.bind_some]
 have h1 : app 1 (List.replicate (Int.toNat (0 : Int)) (0 : UInt8)) p = some p := app_some (by simp; omega) (by simp; omega)
 rw [h1, Option.bind_some, Option.bind_some, show u8 (165 : Int) = some 165 from rfl, Option.bind_some]
 have h2 : app 1 (List.replicate (Int.toNat (0 : Int)) (0 : UInt8) ++ p) [165] = some (p ++ [165]) := app_some (by simp; omega) (by simp; omega)
 rw [h2, Option.bind_some, Option.bind_some]
 have h3 : (List.replicate (Int.toNat (0 : Int)) (0 : UInt8) ++ p ++ [165] ++ []) = p ++ [165] := by simp
 have h4 : (List.replicate (Int.toNat (0 : Int)) (0 : UInt8) ++ p ++ [165]) = p ++ [165] := by simp
 rw [h3, h4, show (0 : Int) = ((0 : Nat) : Int) from rfl, idx_some (show 0 < (p ++ [165]).length by simp), Option.bind_some]
 have h5 : slc (p ++ [165]) ((0 : Nat) : Int) (p.length : Int) = some p := by
  rw [show ((0 : Nat) : Int) = (0 : Int) from rfl, slc_take0 (by simp), List.take_left' rfl]
 rw [h5, Option.bind_some, Int.toNat_natCast, List.drop_left' rfl]
theorem kept_eq (p : List UInt8) (hp : p.length ≤ 1073741824) : F_lecternref01_Kept (p, [165]) p = some true := by
 unfold F_lecternref01_Kept F_lecternref01_Same
 dsimp only
 simp only [letJ]
 rw [Option.bind_some, beq_self_eq_true, cond_true, show idx ([165] : List UInt8) (0 : Int) = some 165 from rfl, Option.bind_some, cond_true, w64 (by omega) (by omega)]
 have h5 : slc (p ++ [165]) (0 : Int) ((p.length : Int) + 1) = some (p ++ [165]) := by
  rw [show (p.length : Int) + 1 = (((p ++ [165]).length : Nat) : Int) by simp, slc_take0 (Nat.le_refl _), List.take_length]
 rw [h5, Option.bind_some, idx_some (show p.length < (p ++ [165]).length by simp), Option.bind_some]
 simp
end Go.Proofs.YtfokkdofcekdbaaGreatDoor

set_option linter.unusedVariables false
set_option linter.unusedSimpArgs false
namespace Go.Proofs.YtfokkdofcekdbaaGreatDoor
def gone : T_scan_Pair := ⟨[103, 111, 110, 101], []⟩
def zeroT : T_scan_Token := ⟨0, 0, [], [], [], 0⟩
def setP (x : T_scan_Token) (l : List T_scan_Pair) : T_scan_Token := ⟨x.Kind, x.At, x.Name, l, x.Text, x.Refs⟩
def K_l3 (i m : Int) (rec : List T_scan_Token × Int → Option (List T_scan_Token)) : List T_scan_Token × Int → Option (List T_scan_Token)
 | (Y, k) => cond (decide (k < m)) (letJ (fun Y' => rec (Y', IntKind.wrap .i64 (k + 1))) fun J => (idx Y i).bind fun x => (idx x.Pairs k).bind fun _ => J (Y.set i.toNat (setP x (x.Pairs.set k.toNat gone)))) (some Y)
def K_l2 (m : Int) (rec : List T_scan_Token × Int → Option Unit) : List T_scan_Token × Int → Option Unit
 | (Y, i) => cond (decide (i < m)) (letJ (fun Y' => rec (Y', IntKind.wrap .i64 (i + 1))) fun J => letJ (fun Y' => (idx Y' i).bind fun _ => J (Y'.set i.toNat zeroT)) fun J' => (idx Y i).bind fun x => (iter (K_l3 i (x.Pairs.length : Int)) FUEL (Y, (0 : Int))).bind fun o => J' o) (some ())
def K_l4 (m : List T_scan_Token) (w : List T_lecternref03_Token) (rec : Int → Option (Unit ⊕ Bool)) (i : Int) : Option (Unit ⊕ Bool) :=
 cond (decide (i < (m.length : Int))) (letJ (fun _ : Unit => rec (IntKind.wrap .i64 (i + 1))) fun J => (idx m i).bind fun x => (idx w i).bind fun y => (F_lecternlaw03_doc x).bind fun z => (F_lecternref03_Same z y).bind fun b => cond (!b) (some (.inr false)) (J ())) (some (.inl ()))
def F_SK (p : List UInt8) : Option Bool :=
 F_lecternlaw03_awake.bind fun x1 => cond (!x1) (some false) ((F_lecternref01_Spare p).bind fun x3 => (F_scan_All x3.1).bind fun l => (F_scan_All x3.1).bind fun m =>
  cond ((l.2.2 != m.2.2) || ((l.1.length : Int) != (m.1.length : Int))) (some false)
   (letJ (fun _ : Unit => (F_lecternref03_All p).bind fun w => cond ((w.1.length : Int) != (m.1.length : Int)) (some false)
    (letJ (fun _ : Unit => (F_lecternref01_Kept (x3.1, x3.2) p).bind fun z => some z) fun J3 => (iter (K_l4 m.1 w.1) FUEL (0 : Int)).bind fun o => match o with | .inl _ => J3 () | .inr b => some b)) fun J2 =>
    (iter (K_l2 (l.1.length : Int)) FUEL (l.1, (0 : Int))).bind fun o => J2 o))
def Sm (n : Nat) (Y : List T_scan_Token) : Prop := Y.length = n ∧ ∀ s ∈ Y, s.Pairs.length ≤ 1073742000
theorem keeps_l3 (i n : Nat) (Y : List T_scan_Token) (h : Sm n Y) (hi : i < n) (hn : n ≤ 65536) (m : Nat) (hm : (Y[i]'(by rw [h.1]; exact hi)).Pairs.length = m) : ∃ Y', iter (K_l3 (i : Int) (m : Int)) FUEL (Y, (0 : Int)) = some Y' ∧ Sm n Y' := by
 have hlt : i < Y.length := by rw [h.1]; exact hi
 have hms : m ≤ 1073742000 := by rw [← hm]; exact h.2 _ (List.getElem_mem _)
 obtain ⟨o, h1, h2⟩ := iter_spec (b := K_l3 (i : Int) (m : Int)) (fun k a => ∃ Z, a = (Z, (k : Int)) ∧ Sm n Z ∧ ∃ h1 : i < Z.length, Z[i].Pairs.length = m)
  (fun o => Sm n o) m (x0 := (Y, (0 : Int))) ⟨Y, rfl, h, hlt, hm⟩ (fun k a rec hk ⟨Z, ha, hZ, g1, g2⟩ => by
   subst ha
   have hz1 := hZ.1
   refine .inl ⟨(Z.set i (setP Z[i] (Z[i].Pairs.set k gone)), ((k + 1 : Nat) : Int)), ?_, _, rfl, ⟨by simp [hZ.1], fun s hs => ?_⟩, by simpa using g1, by simp [setP, g2]⟩
   ·unfold K_l3
    simp only [letJ]
    rw [decide_eq_true (by omega), cond_true, idx_some g1, Option.bind_some, idx_some (by omega), Option.bind_some, w64 (by omega) (by omega)]; rfl
   ·rcases List.mem_or_eq_of_mem_set hs with h | h
    ·exact hZ.2 s h
    ·subst h; simp only [setP, List.length_set]; omega) (fun a rec ⟨Z, ha, hZ, g⟩ => by
   subst ha
   refine ⟨Z, ?_, hZ⟩
   unfold K_l3
   simp only [letJ]
   rw [decide_eq_false (by omega), cond_false]) (n := FUEL) (by unfold FUEL; omega)
 exact ⟨o, h1, h2⟩
theorem keeps_l2 (n : Nat) (Y : List T_scan_Token) (h : Sm n Y) (hn : n ≤ 65536) : iter (K_l2 (n : Int)) FUEL (Y, (0 : Int)) = some () := by
 obtain ⟨o, h1, _⟩ := iter_spec (b := K_l2 (n : Int)) (fun i a => ∃ Z, a = (Z, (i : Int)) ∧ Sm n Z) (fun _ => True) n (x0 := (Y, (0 : Int))) ⟨Y, rfl, h⟩ (fun i a rec hi ⟨Z, ha, hZ⟩ => by
   subst ha
   have hz1 := hZ.1
   have g1 : i < Z.length := by omega
   obtain ⟨Z', e1, e2⟩ := keeps_l3 i n Z hZ hi hn _ rfl
   have e3 : i < Z'.length := by rw [e2.1]; exact hi
   refine .inl ⟨(Z'.set i zeroT, ((i + 1 : Nat) : Int)), ?_, _, rfl, ⟨by simp [e2.1], fun s hs => ?_⟩⟩
   ·unfold K_l2
    simp only [letJ]
    rw [decide_eq_true (by omega), cond_true, idx_some g1, Option.bind_some, e1, Option.bind_some, idx_some e3, Option.bind_some, w64 (by omega) (by omega)]; rfl
   ·rcases List.mem_or_eq_of_mem_set hs with h | h
    ·exact e2.2 s h
    ·subst h; simp [zeroT]) (fun a rec ⟨Z, ha, hZ⟩ => by
   subst ha
   refine ⟨(), ?_, trivial⟩
   unfold K_l2
   simp only [letJ]
   rw [decide_eq_false (by omega), cond_false]) (n := FUEL) (by unfold FUEL; omega)
 exact h1
theorem keeps_l4 (L : List Tk) (hL : L.length ≤ 65536) (hP : ∀ t ∈ L, t.Pairs.length ≤ 1073742000) : iter (K_l4 L (L.map docT)) FUEL (0 : Int) = some (.inl ()) := by
 obtain ⟨o, e1, e2⟩ := iter_spec (b := K_l4 L (L.map docT)) (fun i x => x = (i : Int)) (fun o => o = .inl ()) L.length (x0 := (0 : Int)) rfl (by
  rintro i _ rec hi rfl
  left
  refine ⟨((i + 1 : Nat) : Int), ?_, rfl⟩
  have hm : i < (L.map docT).length := by rw [List.length_map]; exact hi
  have hp := hP _ (List.getElem_mem hi)
  unfold K_l4
  simp only [letJ]
  rw [decide_eq_true (by omega), cond_true, idx_some hi, idx_some hm, Option.bind_some, Option.bind_some, List.getElem_map, doc_eq _ hp, Option.bind_some]
  have hs := same_self (docT L[i]) hp
  rw [show (⟨L[i].Kind, L[i].At, L[i].Name, L[i].Pairs, L[i].Text, L[i].Refs⟩ : T_lecternref03_Token) = docT L[i] from rfl, hs, Option.bind_some, Bool.not_true, cond_false, w64 (by omega) (by omega)]
  rfl) (by
  rintro _ rec rfl
  refine ⟨_, ?_, rfl⟩
  unfold K_l4
  rw [decide_eq_false (by omega), cond_false]) (n := FUEL) (by unfold FUEL; omega)
 rw [e1, e2]
theorem keeps_all (p : List UInt8) (hp : p.length ≤ 1073741824) : F_SK p = some true := by
 obtain ⟨L, a, e, h1, h2, h3, h4⟩ := all_two p hp
 unfold F_SK
 simp only [letJ]
 rw [awake_t, Option.bind_some, Bool.not_true, cond_false, spare_eq p hp, Option.bind_some]
 dsimp only
 rw [h1, Option.bind_some, Option.bind_some]
 dsimp only
 rw [bne_self_eq_false, bne_self_eq_false, Bool.or_false, cond_false, keeps_l2 L.length L ⟨rfl, h4⟩ h3, Option.bind_some, h2, Option.bind_some]
 dsimp only
 rw [List.length_map, bne_self_eq_false, cond_false, keeps_l4 L h3 h4, Option.bind_some, kept_eq p hp]
 rfl
end Go.Proofs.YtfokkdofcekdbaaGreatDoor
