/- Joined by program out of Ya Yb Yc Yd Ye Yf Yg Yh Yi Yj Yk. No condition. -/
import Derived.Test.YtfokkdofcekdbaaDoorX4
import Derived.KernelRfl
set_option linter.unusedSimpArgs false
set_option linter.unusedVariables false
set_option maxRecDepth 20000
namespace Go.Proofs.YtfokkdofcekdbaaDoor
open Go.Lib (decodeL decodeN)
def encR (r : Int) : List UInt8 := (Utf8.encode r).data.toList
theorem encR_1 (r : Nat) (c1 : r < 128) : encR (r : Int) = [UInt8.ofNat r] := by
  have v : Utf8.valid (r : Int) = true := by simp [Utf8.valid]; omega
  simp [encR, Utf8.encode, v, c1]
theorem encR_2 (r : Nat) (c1 : ¬ r < 128) (c2 : r < 2048) : encR (r : Int) = [UInt8.ofNat (192 + r / 64), UInt8.ofNat (128 + r % 64)] := by
  have v : Utf8.valid (r : Int) = true := by simp [Utf8.valid]; omega
  simp [encR, Utf8.encode, v, c1, c2]
theorem encR_3 (r : Nat) (c2 : ¬ r < 2048) (c3 : r < 65536) (hv : r < 55296 ∨ 57344 ≤ r) : encR (r : Int) = [UInt8.ofNat (224 + r / 4096), UInt8.ofNat (128 + r / 64 % 64), UInt8.ofNat (128 + r % 64)] := by
  have v : Utf8.valid (r : Int) = true := by simp [Utf8.valid]; omega
  have c1 : ¬ r < 128 := by omega
  simp [encR, Utf8.encode, v, c1, c2, c3]
theorem encR_4 (r : Nat) (c3 : ¬ r < 65536) (c4 : r ≤ 1114111) : encR (r : Int) = [UInt8.ofNat (240 + r / 262144), UInt8.ofNat (128 + r / 4096 % 64), UInt8.ofNat (128 + r / 64 % 64), UInt8.ofNat (128 + r % 64)] := by
  have v : Utf8.valid (r : Int) = true := by simp [Utf8.valid]; omega
  have c1 : ¬ r < 128 := by omega
  have c2 : ¬ r < 2048 := by omega
  simp [encR, Utf8.encode, v, c1, c2, c3]
theorem ofN {n : Nat} (h : n < 256) : (UInt8.ofNat n).toNat = n := by
  show n % 256 = n; omega
theorem decL (l : List UInt8) : decodeL l = decodeN l.length (l.getD 0 0).toNat (l.getD 1 0).toNat (l.getD 2 0).toNat (l.getD 3 0).toNat := Lib.decodeL_N l
theorem dec_enc (r : Nat) (hv : r < 55296 ∨ (57344 ≤ r ∧ r ≤ 1114111)) (y : List UInt8) : encR (r : Int) ≠ [] ∧ decodeL (encR (r : Int) ++ y) = (r, (encR (r : Int)).length) := by
  by_cases c1 : r < 128
  · rw [encR_1 r c1]
    refine ⟨by simp, ?_⟩
    rw [List.singleton_append, dec_ascii _ _ (by rw [ofN (by omega)]; exact c1), ofN (by omega)]; rfl
  by_cases c2 : r < 2048
  · rw [encR_2 r c1 c2]
    refine ⟨by simp, ?_⟩
    rw [decL]
    simp only [List.cons_append, List.nil_append, List.length_cons, List.getD_cons_zero, List.getD_cons_succ, List.length_nil]
    rw [ofN (show 192 + r / 64 < 256 by omega), ofN (show 128 + r % 64 < 256 by omega)]
    unfold decodeN
    rw [if_neg (by omega), if_pos (by omega), if_pos (by omega)]
    refine Prod.ext (by dsimp only; omega) rfl
  by_cases c3 : r < 65536
  · rw [encR_3 r c2 c3 (by omega)]
    refine ⟨by simp, ?_⟩
    rw [decL]
    simp only [List.cons_append, List.nil_append, List.length_cons, List.getD_cons_zero, List.getD_cons_succ, List.length_nil]
    rw [ofN (show 224 + r / 4096 < 256 by omega), ofN (show 128 + r / 64 % 64 < 256 by omega), ofN (show 128 + r % 64 < 256 by omega)]
    unfold decodeN
    rw [if_neg (by omega), if_neg (by omega), if_pos (by omega), if_pos (by omega)]
    refine Prod.ext (by dsimp only; omega) rfl
  · rw [encR_4 r c3 (by omega)]
    refine ⟨by simp, ?_⟩
    rw [decL]
    simp only [List.cons_append, List.nil_append, List.length_cons, List.getD_cons_zero, List.getD_cons_succ, List.length_nil]
    rw [ofN (show 240 + r / 262144 < 256 by omega), ofN (show 128 + r / 4096 % 64 < 256 by omega), ofN (show 128 + r / 64 % 64 < 256 by omega), ofN (show 128 + r % 64 < 256 by omega)]
    unfold decodeN
    rw [if_neg (by omega), if_neg (by omega), if_neg (by omega), if_pos (by omega), if_pos (by omega)]
    refine Prod.ext (by dsimp only; omega) rfl
theorem okT_enc (c : Int) (hc : charP c = true) (y : List UInt8) (hy : OkT y) : OkT (encR c ++ y) := by
  have h := of_decide_eq_true hc
  obtain ⟨r, rfl⟩ : ∃ r : Nat, c = (r : Int) := ⟨c.toNat, by omega⟩
  obtain ⟨e1, e2⟩ := dec_enc r (by omega) y
  refine .cons (by simp [e1]) ?_ ?_ ?_
  · rw [e2]
    generalize hn : (encR (r : Int)).length = n
    have hno : ¬ (r = 65533 ∧ n = 1) := by
      rintro ⟨q1, q2⟩
      rw [← hn, encR_3 r (by omega) (by omega) (by omega)] at q2
      simp at q2
    exact Bool.eq_false_iff.2 fun hh => hno (of_decide_eq_true hh)
  · rw [e2]; exact hc
  · rw [e2]; dsimp only; rw [List.drop_left]; exact hy
theorem enc_dec {l : List UInt8} (hl : l ≠ []) (h : badR (decodeL l) = false) : encR ((decodeL l).1 : Int) = l.take (decodeL l).2 := by
  have hb : ¬ ((decodeL l).1 = 65533 ∧ (decodeL l).2 = 1) := fun hh => by unfold badR at h; rw [decide_eq_true hh] at h; cases h
  rw [← Lib.encode_decode l hl hb]
  have hnum : ∀ (a b : List UInt8), a.map (fun x : UInt8 => (x.toNat : Int)) = b.map (fun x : UInt8 => (x.toNat : Int)) → a = b := by
    intro a
    induction a with
    | nil => intro b hb; cases b with
      | nil => rfl
      | cons _ _ => cases hb
    | cons x a ih => intro b hb; cases b with
      | nil => cases hb
      | cons y b =>
        simp only [List.map_cons, List.cons.injEq] at hb
        have : x = y := by apply UInt8.toNat_inj.1; omega
        rw [this, ih b hb.2]
  apply hnum
  generalize (decodeL l).1 = r
  have hz : (Lib.encodeRune (r : Int)).map (fun x : UInt8 => (x.toNat : Int)) = Lib.encodeRuneZ (r : Int) := by
    unfold Lib.encodeRune
    rw [List.map_map]
    conv => rhs; rw [← List.map_id (Lib.encodeRuneZ (r : Int))]
    refine List.map_congr_left fun x hx => ?_
    have := Lib.encodeRuneZ_byte (r : Int) x hx
    show ((UInt8.ofNat x.toNat).toNat : Int) = x
    rw [ofN (by omega)]; omega
  rw [hz]
  by_cases c1 : r < 128
  · rw [encR_1 r c1, Lib.encodeRuneZ_one (by omega) (by omega)]; simp [ofN (show r < 256 by omega)]
  by_cases c2 : r < 2048
  · rw [encR_2 r c1 c2, Lib.encodeRuneZ_two (by omega) (by omega)]
    simp only [List.map_cons, List.map_nil]
    rw [ofN (show 192 + r / 64 < 256 by omega), ofN (show 128 + r % 64 < 256 by omega)]
    simp
  by_cases hb' : (55296 ≤ r ∧ r ≤ 57343) ∨ 1114111 < r
  · rw [Lib.encodeRuneZ_bad (by omega)]
    have v : Utf8.valid (r : Int) = false := by simp [Utf8.valid]; omega
    simp [encR, Utf8.encode, v, Utf8.runeError]
  by_cases c3 : r < 65536
  · rw [encR_3 r c2 c3 (by omega), Lib.encodeRuneZ_three (by omega)]
    simp only [List.map_cons, List.map_nil]
    rw [ofN (show 224 + r / 4096 < 256 by omega), ofN (show 128 + r / 64 % 64 < 256 by omega), ofN (show 128 + r % 64 < 256 by omega)]
    simp
  · rw [encR_4 r c3 (by omega), Lib.encodeRuneZ_four (by omega) (by omega)]
    simp only [List.map_cons, List.map_nil]
    rw [ofN (show 240 + r / 262144 < 256 by omega), ofN (show 128 + r / 4096 % 64 < 256 by omega), ofN (show 128 + r / 64 % 64 < 256 by omega), ofN (show 128 + r % 64 < 256 by omega)]
    simp
end Go.Proofs.YtfokkdofcekdbaaDoor
set_option maxRecDepth 20000
namespace Go.Proofs.YtfokkdofcekdbaaDoor
open Go.Lib (decodeL decodeN)
theorem expand_at {p w R : List UInt8} {i : Nat} {r : Int} (hp : p.length ≤ 1073741824) (h : p.drop i = 38 :: (w ++ 59 :: R)) (hw : (59 : UInt8) ∉ w) (hm : F_refer_meant w = some (r, 0)) : F_refer_Expand p (i : Int) = some (r, ((i + w.length + 2 : Nat) : Int), 0) := by
  have hlt := drop_lt h
  have hl : p.length = i + (w.length + R.length + 2) := by
    have := congrArg List.length h
    rw [List.length_drop] at this; simp at this; omega
  have hg : p[i] = 38 := by
    have := drop_get h
    rw [List.getElem?_eq_getElem hlt] at this
    exact Option.some.inj this
  unfold F_refer_Expand
  simp only [letJ]
  rw [decide_eq_false (show ¬ (i : Int) < 0 by omega), decide_eq_false (show ¬ (p.length : Int) ≤ (i : Int) by omega), show (false || false) = false from rfl, cond_false, idx_some hlt, Option.bind_some, hg,
    show (((38 : UInt8).toNat : Int) != 38) = false from rfl, cond_false, slc_drop (Nat.le_of_lt hlt), Option.bind_some]
  unfold L_bIndexByte
  rw [Option.bind_some, show (59 : Int).toNat.toUInt8 = 59 from rfl]
  have hix : Lib.indexByte (p.drop i) 59 = ((w.length + 1 : Nat) : Int) := by
    refine ixB_of (by rw [h]; simp) fun k hk => ?_
    rw [h]
    cases k with
    | zero => simp
    | succ k =>
      rw [List.getElem?_cons_succ, List.getElem?_append_left (by omega)]
      exact fun hc => hw (List.mem_of_getElem? hc)
  rw [hix, decide_eq_false (by omega), cond_false, w64 (x := (i : Int) + 1) (by omega) (by omega), w64 (x := (i : Int) + ((w.length + 1 : Nat) : Int)) (by omega) (by omega)]
  have hsl : slc p ((i : Int) + 1) ((i : Int) + ((w.length + 1 : Nat) : Int)) = some w := by
    unfold slc; rw [if_pos (by omega), show ((i : Int) + 1).toNat = i + 1 by omega, show ((i : Int) + ((w.length + 1 : Nat) : Int)).toNat - (i + 1) = w.length by omega, drop_go1 h, List.take_left]
  rw [hsl, Option.bind_some, hm, Option.bind_some]
  rw [show (((r, 0) : Int × Int).2 != 0) = false from rfl, cond_false, w64 (by omega) (by omega)]
  congr 3
theorem read_good {p : List UInt8} {v : Bool} {i : Nat} {l : List UInt8} (hi : i < p.length) (hp : p.length ≤ 1073741824) (hb : badR (decodeL (p.drop i)) = false) (hc : charP ((decodeL (p.drop i)).1 : Int) = true)
    (h60 : (decodeL (p.drop i)).1 ≠ 60) (hx : v = true ∨ ([93, 93, 62] : List UInt8).isPrefixOf (p.drop i) = false) (rec) :
    F_refer_read_l0 p v rec (l, (i : Int)) = cond (((decodeL (p.drop i)).1 : Int) == (38 : Int)) ((F_refer_Expand p (i : Int)).bind fun x101 => cond (x101.2.2 != (0 : Int)) (some (.inr (([] : List UInt8), (i : Int), x101.2.2))) ((app 1 l (encR x101.1)).bind fun _ => rec ((l ++ encR x101.1), x101.2.1)))
      (cond (v && (((((decodeL (p.drop i)).1 : Int) == (9 : Int)) || (((decodeL (p.drop i)).1 : Int) == (10 : Int))) || (((decodeL (p.drop i)).1 : Int) == (13 : Int)))) ((app 1 l (encR 32)).bind fun _ => rec ((l ++ encR 32), ((i + (decodeL (p.drop i)).2 : Nat) : Int))) ((app 1 l (encR ((decodeL (p.drop i)).1 : Int))).bind fun _ => rec ((l ++ encR ((decodeL (p.drop i)).1 : Int)), ((i + (decodeL (p.drop i)).2 : Nat) : Int)))) := by
  unfold F_refer_read_l0
  simp only [letJ]
  rw [decide_eq_true (by omega), cond_true, F_next p i hi hp, hb, hc, if_neg (by simp), if_pos rfl, Option.bind_some]
  dsimp only
  rw [show (((0 : Int)) != 0) = false from rfl, cond_false, show (((decodeL (p.drop i)).1 : Int) == (60 : Int)) = false by rw [beq_eq_false_iff_ne]; omega, cond_false]
  rcases hx with rfl | hx
  · rfl
  · cases v with
    | true => rfl
    | false =>
      simp only [Bool.not_false, cond_true, slc_drop (Nat.le_of_lt hi), Option.bind_some, hasPrefix_eq, hx, cond_false]
      rfl
theorem read_plain {p : List UInt8} {v : Bool} {i : Nat} {l : List UInt8} (hi : i < p.length) (hp : p.length ≤ 1073741824) (hl : l.length ≤ 4 * i) (hb : badR (decodeL (p.drop i)) = false) (hc : charP ((decodeL (p.drop i)).1 : Int) = true)
    (h60 : (decodeL (p.drop i)).1 ≠ 60) (h38 : (decodeL (p.drop i)).1 ≠ 38) (hv : v = true → (decodeL (p.drop i)).1 ≠ 9 ∧ (decodeL (p.drop i)).1 ≠ 10 ∧ (decodeL (p.drop i)).1 ≠ 13) (hx : v = true ∨ ([93, 93, 62] : List UInt8).isPrefixOf (p.drop i) = false) (rec) :
    F_refer_read_l0 p v rec (l, (i : Int)) = rec ((l ++ encR ((decodeL (p.drop i)).1 : Int)), ((i + (decodeL (p.drop i)).2 : Nat) : Int)) := by
  have e4 : ∀ r, (encR r).length ≤ 4 := enc_len
  have := e4 ((decodeL (p.drop i)).1 : Int)
  rw [read_good hi hp hb hc h60 hx, show (((decodeL (p.drop i)).1 : Int) == (38 : Int)) = false by rw [beq_eq_false_iff_ne]; omega, cond_false]
  have hw : (v && (((((decodeL (p.drop i)).1 : Int) == (9 : Int)) || (((decodeL (p.drop i)).1 : Int) == (10 : Int))) || (((decodeL (p.drop i)).1 : Int) == (13 : Int)))) = false := by
    cases v with
    | false => rfl
    | true =>
      obtain ⟨q1, q2, q3⟩ := hv rfl
      rw [show (((decodeL (p.drop i)).1 : Int) == (9 : Int)) = false by rw [beq_eq_false_iff_ne]; omega, show (((decodeL (p.drop i)).1 : Int) == (10 : Int)) = false by rw [beq_eq_false_iff_ne]; omega, show (((decodeL (p.drop i)).1 : Int) == (13 : Int)) = false by rw [beq_eq_false_iff_ne]; omega]
      rfl
  rw [hw, cond_false, app_some (by omega) (by omega), Option.bind_some]
theorem read_ref {p w R : List UInt8} {v : Bool} {i : Nat} {l : List UInt8} {r : Int} (hp : p.length ≤ 1073741824) (hl : l.length ≤ 4 * i) (h : p.drop i = 38 :: (w ++ 59 :: R)) (hw : (59 : UInt8) ∉ w) (hm : F_refer_meant w = some (r, 0)) (rec) :
    F_refer_read_l0 p v rec (l, (i : Int)) = rec ((l ++ encR r), ((i + w.length + 2 : Nat) : Int)) := by
  have e4 : ∀ r, (encR r).length ≤ 4 := enc_len
  have := e4 r
  have hi := drop_lt h
  have hd : decodeL (p.drop i) = (38, 1) := by rw [h, dec_ascii _ _ (by decide)]; rfl
  rw [read_good hi hp (by rw [hd]; decide) (by rw [hd]; decide) (by rw [hd]; decide) (.inr (by rw [h]; rfl)), hd]
  rw [show ((((38, 1) : Nat × Nat).1 : Int) == (38 : Int)) = true from rfl, cond_true, expand_at hp h hw hm, Option.bind_some]
  dsimp only
  rw [show (((0 : Int)) != 0) = false from rfl, cond_false, app_some (by omega) (by omega), Option.bind_some]
def Esc (v : Bool) (E : UInt8 → List UInt8) : Prop := ∀ c : UInt8, (c.toNat < 128 → charP (c.toNat : Int) = true) →
  (E c = [c] ∧ c ≠ 60 ∧ c ≠ 38 ∧ (v = true → c ≠ 9 ∧ c ≠ 10 ∧ c ≠ 13) ∧ (v = false → c ≠ 62)) ∨ (c.toNat < 128 ∧ ∃ w, E c = 38 :: (w ++ [59]) ∧ (59 : UInt8) ∉ w ∧ (62 : UInt8) ∉ w ∧ F_refer_meant w = some ((c.toNat : Int), 0))
theorem iter_one {σ ρ : Type} {b : (σ → Option ρ) → σ → Option ρ} {n : Nat} {x y : σ} (h : ∀ rec, b rec x = rec y) : iter b (n + 1) x = iter b n y := by rw [iter_succ, h]
theorem read_esc {E : UInt8 → List UInt8} {v : Bool} (hE : Esc v E) {t : List UInt8} (ht : OkT t) : ∀ (W pre l : List UInt8) (m : Nat), W = pre ++ t.flatMap E → W.length ≤ 1073741824 → (v = false → (62 : UInt8) ∉ W) → l.length ≤ 4 * pre.length → t.length < m →
    iter (F_refer_read_l0 W v) m (l, (pre.length : Int)) = some (.inl (l ++ t)) := by
  induction ht with
  | nil =>
    intro W pre l m hW hl hg hle hm
    obtain ⟨m, rfl⟩ : ∃ k, m = k + 1 := ⟨m - 1, by omega⟩
    rw [List.flatMap_nil, List.append_nil] at hW
    subst hW
    rw [iter_succ]
    unfold F_refer_read_l0
    dsimp only
    rw [decide_eq_false (by omega), cond_false, List.append_nil]
  | @cons t h1 h2 h3 h4 ih =>
    intro W pre l m hW hl hg hle hm
    obtain ⟨m, rfl⟩ : ∃ k, m = k + 1 := ⟨m - 1, by omega⟩
    have hx : v = true ∨ ([93, 93, 62] : List UInt8).isPrefixOf (W.drop pre.length) = false := by
      cases v with
      | true => exact .inl rfl
      | false =>
        right
        cases hp : ([93, 93, 62] : List UInt8).isPrefixOf (W.drop pre.length) with
        | false => rfl
        | true =>
          rw [List.isPrefixOf_iff_prefix] at hp
          obtain ⟨z, hz⟩ := hp
          exact absurd (List.mem_of_mem_drop (hz ▸ (by simp : (62 : UInt8) ∈ [93, 93, 62] ++ z))) (hg rfl)
    have hdrop : W.drop pre.length = t.flatMap E := by rw [hW, List.drop_left]
    cases t with
    | nil => exact absurd rfl h1
    | cons c t' =>
    by_cases hc : c.toNat < 128
    · have hd := dec_ascii c t' hc
      rw [hd] at h3 ih
      have henc : encR (c.toNat : Int) = [c] := by rw [encR_1 _ hc]; simp
      rcases hE c (fun _ => h3) with ⟨e1, e2, e3, e4, e5⟩ | ⟨_, w, e1, e2, e3, e4⟩
      · rw [List.flatMap_cons, e1, List.singleton_append] at hdrop hW
        have hdW : decodeL (W.drop pre.length) = (c.toNat, 1) := by rw [hdrop, dec_ascii _ _ hc]
        have hn : ∀ n : Nat, c.toNat = n → n < 256 → c = UInt8.ofNat n := fun n hn hlt => by rw [← hn]; simp
        rw [iter_one (read_plain (drop_lt hdrop) hl hle (by rw [hdW]; rw [hd] at h2; exact h2) (by rw [hdW]; exact h3) (by rw [hdW]; exact fun h => e2 (hn 60 h (by decide))) (by rw [hdW]; exact fun h => e3 (hn 38 h (by decide)))
          (fun hv => by rw [hdW]; exact ⟨fun h => (e4 hv).1 (hn 9 h (by decide)), fun h => (e4 hv).2.1 (hn 10 h (by decide)), fun h => (e4 hv).2.2 (hn 13 h (by decide))⟩) hx), hdW]
        dsimp only
        rw [henc, show pre.length + 1 = (pre ++ [c]).length by simp]
        have := ih W (pre ++ [c]) (l ++ [c]) m (by rw [hW]; simp) hl hg (by simp; omega) (by simp at hm ⊢; omega)
        rw [this]
        simp
      · have hdrop' : W.drop pre.length = 38 :: (w ++ 59 :: t'.flatMap E) := by rw [hdrop, List.flatMap_cons, e1]; simp
        rw [iter_one (read_ref hl hle hdrop' e2 e4)]
        rw [henc, show pre.length + w.length + 2 = (pre ++ E c).length by rw [e1]; simp; omega]
        have := ih W (pre ++ E c) (l ++ [c]) m (by rw [hW, List.flatMap_cons]; simp) hl hg (by rw [e1]; simp; omega) (by simp at hm ⊢; omega)
        rw [this]
        simp
    · have hp := dec_pos h1
      obtain ⟨_, _, _, d4⟩ := dec_bytes (c :: t') 0 (by simp)
      rw [List.drop_zero] at d4
      generalize hT : c :: t' = T at *
      have hu : ∀ b ∈ T.take (decodeL T).2, E b = [b] := by
        intro b hb
        have hb128 : 128 ≤ b.toNat := by
          obtain ⟨k, hk⟩ := List.mem_iff_getElem?.1 hb
          have hkl : k < (decodeL T).2 := by
            have := (List.getElem?_eq_some_iff.1 hk).1
            rw [List.length_take] at this; omega
          rw [List.getElem?_take_of_lt hkl] at hk
          cases k with
          | zero =>
            rw [← hT] at hk
            have : c = b := by simpa using hk
            rw [← this]; omega
          | succ k =>
            have := d4 (k + 1) (by omega) hkl
            rw [Nat.zero_add] at this
            simp [List.getD, hk] at this
            exact this
        rcases hE b (fun h => by omega) with ⟨e1, _⟩ | ⟨e1, _⟩
        · exact e1
        · omega
      have hfu : (T.take (decodeL T).2).flatMap E = T.take (decodeL T).2 := by
        have : ∀ u : List UInt8, (∀ b ∈ u, E b = [b]) → u.flatMap E = u := by
          intro u
          induction u with
          | nil => intro _; rfl
          | cons b u ih => intro h; rw [List.flatMap_cons, h b List.mem_cons_self, ih (fun d hd => h d (List.mem_cons_of_mem _ hd))]; rfl
        exact this _ hu
      have hsp : T.flatMap E = T.take (decodeL T).2 ++ (T.drop (decodeL T).2).flatMap E := by
        conv => lhs; rw [← List.take_append_drop (decodeL T).2 T]
        rw [List.flatMap_append, hfu]
      have hune : T.take (decodeL T).2 ≠ [] := fun h => by
        have := congrArg List.length h
        rw [List.length_take, List.length_nil] at this; omega
      have hdW : decodeL (W.drop pre.length) = decodeL T := by
        rw [hdrop, hsp, dec_app hune (by rw [dec_take h1 h2]; exact h2), dec_take h1 h2]
      have henc := enc_dec h1 h2
      have hr : 128 ≤ (decodeL T).1 := by
        rcases Nat.lt_or_ge (decodeL T).1 128 with hlt | hge
        · exfalso
          rw [encR_1 _ hlt] at henc
          have h0 : (T.take (decodeL T).2)[0]? = some (UInt8.ofNat (decodeL T).1) := by rw [← henc]; rfl
          rw [List.getElem?_take_of_lt (by omega), ← hT] at h0
          have : c = UInt8.ofNat (decodeL (c :: t')).1 := by simpa using h0
          rw [this, hT, ofN (by omega)] at hc
          omega
        · exact hge
      have hlt : pre.length < W.length := by
        have := congrArg List.length hdrop
        rw [hsp, List.length_drop, List.length_append, List.length_take] at this
        omega
      rw [iter_one (read_plain hlt hl hle (by rw [hdW]; exact h2) (by rw [hdW]; exact h3) (by rw [hdW]; omega) (by rw [hdW]; omega) (fun _ => by rw [hdW]; omega) hx), hdW, henc]
      have hlen : (T.take (decodeL T).2).length = (decodeL T).2 := by rw [List.length_take]; omega
      rw [show pre.length + (decodeL T).2 = (pre ++ T.take (decodeL T).2).length by rw [List.length_append, hlen]]
      have := ih W (pre ++ T.take (decodeL T).2) (l ++ T.take (decodeL T).2) m (by rw [hW, hsp]; simp) hl hg (by rw [List.length_append, List.length_append, hlen]; omega) (by rw [List.length_drop]; omega)
      rw [this, List.append_assoc, List.take_append_drop]
theorem read_back {E : UInt8 → List UInt8} {v : Bool} (hE : Esc v E) {t : List UInt8} (ht : OkT t) (hl : (t.flatMap E).length ≤ 1073741824) (htl : t.length ≤ 1073741824) (hg : v = false → (62 : UInt8) ∉ t.flatMap E) : F_refer_read (t.flatMap E) v = some (t, 0, 0) := by
  have := read_esc hE ht (t.flatMap E) [] [] FUEL rfl hl hg (by simp) (by unfold FUEL; omega)
  unfold F_refer_read
  simp only [letJ]
  rw [show (([] : List UInt8).length : Int) = 0 from rfl, List.nil_append] at this
  rw [this]
  rfl
end Go.Proofs.YtfokkdofcekdbaaDoor
set_option maxRecDepth 20000
namespace Go.Proofs.YtfokkdofcekdbaaDoor
open Go.Lib (decodeL decodeN)
def escF (bs : List UInt8) (rs : List (List UInt8)) (c : UInt8) : List UInt8 := (bs.zip rs).foldl (fun t x => if c = x.1 then x.2 else t) [c]
theorem escF_len (bs : List UInt8) (rs : List (List UInt8)) (hr : ∀ r ∈ rs, r.length ≤ 8) (c : UInt8) : (escF bs rs c).length ≤ 8 := by
  unfold escF
  have : ∀ (l : List (UInt8 × List UInt8)) (t : List UInt8), (∀ x ∈ l, x.2.length ≤ 8) → t.length ≤ 8 → (l.foldl (fun t x => if c = x.1 then x.2 else t) t).length ≤ 8 := by
    intro l
    induction l with
    | nil => intro t _ h; exact h
    | cons x l ih =>
      intro t hl h
      rw [List.foldl_cons]
      refine ih _ (fun y hy => hl y (List.mem_cons_of_mem _ hy)) ?_
      split
      · exact hl x List.mem_cons_self
      · exact h
  exact this _ _ (fun x hx => hr _ (List.of_mem_zip hx).2) (by simp)
theorem flatMap_len {E : UInt8 → List UInt8} (hE : ∀ c, (E c).length ≤ 8) : ∀ t : List UInt8, (t.flatMap E).length ≤ 8 * t.length
  | [] => by simp
  | c :: t => by
    have := hE c
    have := flatMap_len hE t
    rw [List.flatMap_cons, List.length_append, List.length_cons]; omega
theorem slc_one {p : List UInt8} {i : Nat} (hi : i < p.length) : slc p (i : Int) ((i + 1 : Nat) : Int) = some [p[i]] := by
  unfold slc
  rw [if_pos (by omega), Int.toNat_natCast, Int.toNat_natCast, show i + 1 - i = 1 by omega, drop_ne hi]
  rfl
theorem cat_some {a b : List UInt8} (h : a.length + b.length ≤ 9223372036854775807) : cat a b = some (a ++ b) := by unfold cat; rw [if_pos h]
theorem written_eq (p bs : List UInt8) (rs : List (List UInt8)) (hp : p.length ≤ 134217728) (hb : bs.length ≤ 6) (hl : rs.length = 6) (hr : ∀ r ∈ rs, r.length ≤ 8) : F_lecternref02_written p bs rs = some (p.flatMap (escF bs rs)) := by
  have inner : ∀ (i : Nat) (hi : i < p.length), iter (F_lecternref02_written_l1 p bs rs (i : Int)) FUEL ([p[i]], (0 : Int)) = some (escF bs rs p[i]) := by
    intro i hi
    have hz : (bs.zip rs).length = bs.length := by rw [List.length_zip]; omega
    obtain ⟨o, e1, e2⟩ := iter_spec (b := F_lecternref02_written_l1 p bs rs (i : Int)) (fun k x => x = (((bs.zip rs).take k).foldl (fun t x => if p[i] = x.1 then x.2 else t) [p[i]], (k : Int))) (fun o => o = escF bs rs p[i]) bs.length (x0 := ([p[i]], (0 : Int))) (by simp) (by
      rintro k _ rec hk rfl
      left
      refine ⟨_, ?_, rfl⟩
      unfold F_lecternref02_written_l1
      simp only [letJ]
      have hk2 : k < rs.length := by omega
      rw [decide_eq_true (by omega), cond_true, idx_some hi, Option.bind_some, idx_some hk, Option.bind_some, w64 (by omega) (by omega)]
      have hzk : (bs.zip rs)[k]? = some (bs[k], rs[k]) := by rw [List.getElem?_eq_getElem (by omega)]; simp
      rw [List.take_add_one, hzk, Option.toList_some, List.foldl_append, List.foldl_cons, List.foldl_nil]
      have hN : idxN 6 rs (k : Int) = some rs[k] := by unfold idxN; rw [if_pos (by omega), idx_some hk2]
      by_cases he : p[i] = bs[k]
      · rw [if_pos he, he, beq_self_eq_true, cond_true, hN, Option.bind_some]; rfl
      · rw [if_neg he, show ((p[i].toNat : Int) == (bs[k].toNat : Int)) = false by rw [beq_eq_false_iff_ne]; intro h; exact he (UInt8.toNat_inj.1 (by omega)), cond_false]; rfl) (by
      rintro _ rec rfl
      refine ⟨_, ?_, rfl⟩
      unfold F_lecternref02_written_l1
      dsimp only
      rw [decide_eq_false (by omega), cond_false, List.take_of_length_le (by omega)]
      rfl) (n := FUEL) (by unfold FUEL; omega)
    rw [e1, e2]
  obtain ⟨o, e1, e2⟩ := iter_spec (b := F_lecternref02_written_l0 p bs rs) (fun i x => x = ((p.take i).flatMap (escF bs rs), (i : Int))) (fun o => o = p.flatMap (escF bs rs)) p.length (x0 := (([] : List UInt8), (0 : Int))) (by simp) (by
    rintro i _ rec hi rfl
    left
    refine ⟨_, ?_, rfl⟩
    unfold F_lecternref02_written_l0
    simp only [letJ]
    have h1 := flatMap_len (escF_len bs rs hr) (p.take i)
    have h2 := escF_len bs rs hr p[i]
    rw [List.length_take] at h1
    rw [decide_eq_true (by omega), cond_true, w64 (by omega) (by omega), show (i : Int) + 1 = ((i + 1 : Nat) : Int) by omega, slc_one hi, Option.bind_some, inner i hi, Option.bind_some, cat_some (by omega), Option.bind_some,
      List.take_add_one, List.getElem?_eq_getElem hi, Option.toList_some, List.flatMap_append, List.flatMap_singleton]) (by
    rintro _ rec rfl
    refine ⟨_, ?_, rfl⟩
    unfold F_lecternref02_written_l0
    dsimp only
    rw [decide_eq_false (by omega), cond_false, List.take_length]) (n := FUEL) (by unfold FUEL; omega)
  unfold F_lecternref02_written
  simp only [letJ]
  rw [e1, Option.bind_some, e2]
def txE (c : UInt8) : List UInt8 := if c = 38 then [38, 97, 109, 112, 59] else if c = 60 then [38, 108, 116, 59] else if c = 62 then [38, 103, 116, 59] else if c = 13 then [38, 35, 49, 51, 59] else [c]
def quE (c : UInt8) : List UInt8 := if c = 38 then [38, 97, 109, 112, 59] else if c = 60 then [38, 108, 116, 59] else if c = 34 then [38, 113, 117, 111, 116, 59] else if c = 9 then [38, 35, 57, 59] else if c = 10 then [38, 35, 49, 48, 59] else if c = 13 then [38, 35, 49, 51, 59] else [c]
def apE (c : UInt8) : List UInt8 := if c = 38 ∨ c = 60 ∨ c = 39 ∨ c.toNat < 32 then [38, 35, UInt8.ofNat (48 + c.toNat / 100), UInt8.ofNat (48 + c.toNat / 10 % 10), UInt8.ofNat (48 + c.toNat % 10), 59] else [c]
theorem text_w (p : List UInt8) (hp : p.length ≤ 134217728) : F_lecternref02_Text p = some (p.flatMap txE) := by
  unfold F_lecternref02_Text
  rw [written_eq p _ _ hp (by decide) rfl (by decide), Option.bind_some]
  have : escF ([38, 60, 62, 13] : List UInt8) ([([38, 97, 109, 112, 59] : List UInt8), ([38, 108, 116, 59] : List UInt8), ([38, 103, 116, 59] : List UInt8), ([38, 35, 49, 51, 59] : List UInt8), ([] : List UInt8), ([] : List UInt8)] : List (List UInt8)) = txE := by
    funext c
    have h : ∀ c : UInt8, decide (escF ([38, 60, 62, 13] : List UInt8) ([([38, 97, 109, 112, 59] : List UInt8), ([38, 108, 116, 59] : List UInt8), ([38, 103, 116, 59] : List UInt8), ([38, 35, 49, 51, 59] : List UInt8), ([] : List UInt8), ([] : List UInt8)] : List (List UInt8)) c = txE c) = true := all_u8 (by decide +kernel)
    exact of_decide_eq_true (h c)
  rw [this]
theorem quote_w (p : List UInt8) (hp : p.length ≤ 134217728) : F_lecternref02_Quote p = some (p.flatMap quE) := by
  unfold F_lecternref02_Quote
  rw [written_eq p _ _ hp (by decide) rfl (by decide), Option.bind_some]
  have : escF ([38, 60, 34, 9, 10, 13] : List UInt8) ([([38, 97, 109, 112, 59] : List UInt8), ([38, 108, 116, 59] : List UInt8), ([38, 113, 117, 111, 116, 59] : List UInt8), ([38, 35, 57, 59] : List UInt8), ([38, 35, 49, 48, 59] : List UInt8), ([38, 35, 49, 51, 59] : List UInt8)] : List (List UInt8)) = quE := by
    funext c
    have h : ∀ c : UInt8, decide (escF ([38, 60, 34, 9, 10, 13] : List UInt8) ([([38, 97, 109, 112, 59] : List UInt8), ([38, 108, 116, 59] : List UInt8), ([38, 113, 117, 111, 116, 59] : List UInt8), ([38, 35, 57, 59] : List UInt8), ([38, 35, 49, 48, 59] : List UInt8), ([38, 35, 49, 51, 59] : List UInt8)] : List (List UInt8)) c = quE c) = true := all_u8 (by decide +kernel)
    exact of_decide_eq_true (h c)
  rw [this]
theorem apart_w (p : List UInt8) (hp : p.length ≤ 134217728) : F_lecternlaw03_apart p = some (p.flatMap apE) := by
  have hb : ∀ c : UInt8, (decide (u8 (IntKind.wrap .u8 ((48 : Int) + (IntKind.wrap .u8 (Int.tdiv (c.toNat : Int) (100 : Int))))) = some (UInt8.ofNat (48 + c.toNat / 100))) && (decide (u8 (IntKind.wrap .u8 ((48 : Int) + (Int.tmod (IntKind.wrap .u8 (Int.tdiv (c.toNat : Int) (10 : Int))) (10 : Int)))) = some (UInt8.ofNat (48 + c.toNat / 10 % 10)))
    && decide (u8 (IntKind.wrap .u8 ((48 : Int) + (Int.tmod (c.toNat : Int) (10 : Int)))) = some (UInt8.ofNat (48 + c.toNat % 10))))) = true := all_u8 (by decide +kernel)
  have hl : ∀ c, (apE c).length ≤ 8 := fun c => by unfold apE; split <;> simp
  obtain ⟨o, e1, e2⟩ := iter_spec (b := F_lecternlaw03_apart_l0 p) (fun i x => x = ((p.take i).flatMap apE, (i : Int))) (fun o => o = p.flatMap apE) p.length (x0 := (([] : List UInt8), (0 : Int))) (by simp) (by
    rintro i _ rec hi rfl
    left
    refine ⟨_, ?_, rfl⟩
    unfold F_lecternlaw03_apart_l0
    simp only [letJ]
    have h1 := flatMap_len hl (p.take i)
    rw [List.length_take] at h1
    have h3 := hb p[i]
    simp only [Bool.and_eq_true, decide_eq_true_eq] at h3
    obtain ⟨b1, b2, b3⟩ := h3
    rw [decide_eq_true (by omega), cond_true, w64 (by omega) (by omega), show (i : Int) + 1 = ((i + 1 : Nat) : Int) by omega, idx_some hi, Option.bind_some, b1, b2, b3, slc_one hi]
    simp only [Option.bind_some]
    generalize hX : (p.take i).flatMap apE = X at h1 ⊢
    rw [cat_some (by simp only [List.length_append, List.length_cons, List.length_nil]; omega), cat_some (by simp only [List.length_append, List.length_cons, List.length_nil]; omega), cat_some (by simp only [List.length_append, List.length_cons, List.length_nil]; omega), cat_some (by simp only [List.length_append, List.length_cons, List.length_nil]; omega)]
    simp only [Option.bind_some]
    subst hX
    rw [List.take_add_one, List.getElem?_eq_getElem hi, Option.toList_some, List.flatMap_append, List.flatMap_singleton]
    have hcond : ((((((p[i].toNat : Int) == (38 : Int)) || ((p[i].toNat : Int) == (60 : Int))) || ((p[i].toNat : Int) == (39 : Int))) || (decide ((p[i].toNat : Int) < (32 : Int))))) = decide (p[i] = 38 ∨ p[i] = 60 ∨ p[i] = 39 ∨ p[i].toNat < 32) := by
      have : ∀ c : UInt8, (((((((c.toNat : Int) == (38 : Int)) || ((c.toNat : Int) == (60 : Int))) || ((c.toNat : Int) == (39 : Int))) || (decide ((c.toNat : Int) < (32 : Int))))) == decide (c = 38 ∨ c = 60 ∨ c = 39 ∨ c.toNat < 32)) = true := all_u8 (by decide +kernel)
      exact eq_of_beq (this p[i])
    rw [hcond]
    unfold apE
    by_cases hc : p[i] = 38 ∨ p[i] = 60 ∨ p[i] = 39 ∨ p[i].toNat < 32
    · rw [decide_eq_true hc, cond_true, if_pos hc]; simp
    · rw [decide_eq_false hc, cond_false, if_neg hc]) (by
    rintro _ rec rfl
    refine ⟨_, ?_, rfl⟩
    unfold F_lecternlaw03_apart_l0
    dsimp only
    rw [decide_eq_false (by omega), cond_false, List.take_length]) (n := FUEL) (by unfold FUEL; omega)
  unfold F_lecternlaw03_apart
  simp only [letJ]
  rw [e1, Option.bind_some, e2]
theorem esc_tx : Esc false txE := by
  intro c hc
  by_cases h1 : c = 38
  · subst h1; exact .inr ⟨by decide, [97, 109, 112], rfl, by decide, by decide, by kernel_rfl⟩
  by_cases h2 : c = 60
  · subst h2; exact .inr ⟨by decide, [108, 116], rfl, by decide, by decide, by kernel_rfl⟩
  by_cases h3 : c = 62
  · subst h3; exact .inr ⟨by decide, [103, 116], rfl, by decide, by decide, by kernel_rfl⟩
  by_cases h4 : c = 13
  · subst h4; exact .inr ⟨by decide, [35, 49, 51], rfl, by decide, by decide, by kernel_rfl⟩
  · exact .inl ⟨by unfold txE; rw [if_neg h1, if_neg h2, if_neg h3, if_neg h4], h2, h1, fun h => (by cases h), fun _ => h3⟩
theorem esc_qu : Esc true quE := by
  intro c hc
  by_cases h1 : c = 38
  · subst h1; exact .inr ⟨by decide, [97, 109, 112], rfl, by decide, by decide, by kernel_rfl⟩
  by_cases h2 : c = 60
  · subst h2; exact .inr ⟨by decide, [108, 116], rfl, by decide, by decide, by kernel_rfl⟩
  by_cases h3 : c = 34
  · subst h3; exact .inr ⟨by decide, [113, 117, 111, 116], rfl, by decide, by decide, by kernel_rfl⟩
  by_cases h4 : c = 9
  · subst h4; exact .inr ⟨by decide, [35, 57], rfl, by decide, by decide, by kernel_rfl⟩
  by_cases h5 : c = 10
  · subst h5; exact .inr ⟨by decide, [35, 49, 48], rfl, by decide, by decide, by kernel_rfl⟩
  by_cases h6 : c = 13
  · subst h6; exact .inr ⟨by decide, [35, 49, 51], rfl, by decide, by decide, by kernel_rfl⟩
  · exact .inl ⟨by unfold quE; rw [if_neg h1, if_neg h2, if_neg h3, if_neg h4, if_neg h5, if_neg h6], h2, h1, fun _ => ⟨h4, h5, h6⟩, fun h => (by cases h)⟩
theorem esc_ap : Esc true apE := by
  intro c hc
  by_cases h1 : c = 38
  · subst h1; exact .inr ⟨by decide, [35, 48, 51, 56], rfl, by decide, by decide, by kernel_rfl⟩
  by_cases h2 : c = 60
  · subst h2; exact .inr ⟨by decide, [35, 48, 54, 48], rfl, by decide, by decide, by kernel_rfl⟩
  by_cases h3 : c = 39
  · subst h3; exact .inr ⟨by decide, [35, 48, 51, 57], rfl, by decide, by decide, by kernel_rfl⟩
  by_cases h4 : c = 9
  · subst h4; exact .inr ⟨by decide, [35, 48, 48, 57], rfl, by decide, by decide, by kernel_rfl⟩
  by_cases h5 : c = 10
  · subst h5; exact .inr ⟨by decide, [35, 48, 49, 48], rfl, by decide, by decide, by kernel_rfl⟩
  by_cases h6 : c = 13
  · subst h6; exact .inr ⟨by decide, [35, 48, 49, 51], rfl, by decide, by decide, by kernel_rfl⟩
  · refine .inl ⟨?_, h2, h1, fun _ => ⟨h4, h5, h6⟩, fun h => (by cases h)⟩
    unfold apE
    refine if_neg ?_
    rintro (h | h | h | h)
    · exact h1 h
    · exact h2 h
    · exact h3 h
    · have hp := hc (by omega)
      have : ∀ c : UInt8, (!(decide (c.toNat < 32) && charP (c.toNat : Int)) || (decide (c = 9 ∨ c = 10 ∨ c = 13))) = true := all_u8 (by decide +kernel)
      have h7 := this c
      rw [decide_eq_true h, hp] at h7
      simp at h7
      rcases h7 with h7 | h7 | h7
      · exact h4 h7
      · exact h5 h7
      · exact h6 h7
end Go.Proofs.YtfokkdofcekdbaaDoor
set_option maxRecDepth 20000
namespace Go.Proofs.YtfokkdofcekdbaaDoor
open Go.Lib (decodeL decodeN)
theorem meant_l0c (a : List UInt8) (k : Int) (ha : a.length ≤ 1073741824) : ∃ o, iter (F_refer_meant_l0 a k) FUEL ((0 : Int), (0 : Int)) = some o ∧ ∀ q, o = .inr q → q.2 ≠ 0 := by
  refine iter_spec (b := F_refer_meant_l0 a k) (fun i x => ∃ n : Int, x = (n, (i : Int))) _ a.length (x0 := ((0 : Int), (0 : Int))) ⟨0, rfl⟩ ?_ ?_ (n := FUEL) (by unfold FUEL; omega)
  · rintro i x rec hi ⟨n, rfl⟩
    obtain ⟨r, hr⟩ := digit_some (a[i].toNat : Int)
    unfold F_refer_meant_l0
    dsimp only
    rw [decide_eq_true (by omega), cond_true, idx_some hi, Option.bind_some, hr, Option.bind_some]
    cases decide (k ≤ r) with
    | true => exact .inr ⟨_, rfl, fun q hq => by injection hq with hq; rw [← hq]; decide⟩
    | false =>
      rw [cond_false, w64 (x := (i : Int) + 1) (by omega) (by omega)]
      exact .inl ⟨_, rfl, _, rfl⟩
  · rintro x rec ⟨n, rfl⟩
    unfold F_refer_meant_l0
    dsimp only
    rw [decide_eq_false (by omega), cond_false]
    exact ⟨_, rfl, fun q hq => by cases hq⟩
theorem meant_char {s : List UInt8} (hs : s.length ≤ 1073741824) {r : Int} (h : F_refer_meant s = some (r, 0)) : charP r = true := by
  unfold F_refer_meant at h
  rcases cond_some h with h | h
  · injection Option.some.inj h with h _; rw [← h]; decide
  rcases cond_some h with h | h
  · injection Option.some.inj h with h _; rw [← h]; decide
  rcases cond_some h with h | h
  · injection Option.some.inj h with h _; rw [← h]; decide
  rcases cond_some h with h | h
  · injection Option.some.inj h with h _; rw [← h]; decide
  rcases cond_some h with h | h
  · injection Option.some.inj h with h _; rw [← h]; decide
  rw [cutPrefix_eq, Option.bind_some] at h
  generalize hx : (if ([35] : List UInt8).isPrefixOf s = true then (s.drop ([35] : List UInt8).length, true) else (s, false)) = x at h
  have hxl : x.1.length ≤ 1073741824 := by
    rw [← hx]; split
    · dsimp only; rw [List.length_drop]; omega
    · exact hs
  simp only [letJ] at h
  rw [cutPrefix_eq, Option.bind_some] at h
  generalize hy : (if ([120] : List UInt8).isPrefixOf x.1 = true then (x.1.drop ([120] : List UInt8).length, true) else (x.1, false)) = y at h
  have hyl : y.1.length ≤ 1073741824 := by
    rw [← hy]; split
    · dsimp only; rw [List.length_drop]; omega
    · exact hxl
  have core : ∀ (a : List UInt8) (k : Int), a.length ≤ 1073741824 → cond ((!x.2) || (a == ([] : List UInt8))) (some ((0 : Int), (22 : Int))) ((iter (F_refer_meant_l0 a k) FUEL ((0 : Int), (0 : Int))).bind fun o => match o with
      | .inl o1 => (F_char_IsChar (IntKind.wrap .i32 o1)).bind fun x34 => cond (!x34) (some ((0 : Int), (21 : Int))) (some ((IntKind.wrap .i32 o1), (0 : Int)))
      | .inr o1 => some o1) = some (r, 0) → charP r = true := by
    intro a k ha h
    rcases cond_some h with h | h
    · injection Option.some.inj h with _ h; exact absurd h (by decide)
    obtain ⟨o, e, ho⟩ := meant_l0c a k ha
    rw [e, Option.bind_some] at h
    cases o with
    | inr q => exact absurd (by have := Option.some.inj h; rw [this]) (ho q rfl)
    | inl q =>
      dsimp only at h
      rw [F_isChar, Option.bind_some] at h
      cases hc : charP (IntKind.wrap .i32 q) with
      | false =>
        rw [hc, Bool.not_false, cond_true] at h
        injection Option.some.inj h with _ h; exact absurd h (by decide)
      | true =>
        rw [hc, Bool.not_true, cond_false] at h
        injection Option.some.inj h with h _
        rw [← h]; exact hc
  rcases cond_some h with h | h
  · exact core y.1 16 hyl h
  · exact core x.1 10 hxl h
theorem expand_char {p : List UInt8} {i : Nat} (hi : i < p.length) (hp : p.length ≤ 1073741824) {r n : Int} (h : F_refer_Expand p (i : Int) = some (r, n, 0)) : charP r = true := by
  unfold F_refer_Expand at h
  simp only [letJ] at h
  rw [decide_eq_false (show ¬ (i : Int) < 0 by omega), decide_eq_false (show ¬ (p.length : Int) ≤ (i : Int) by omega), show (false || false) = false from rfl, cond_false, idx_some hi, Option.bind_some] at h
  rcases cond_some h with h | h
  · injection Option.some.inj h with _ h; injection h with _ h; exact absurd h (by decide)
  obtain ⟨_, _, h⟩ := bind_some' h
  obtain ⟨_, _, h⟩ := bind_some' h
  rcases cond_some h with h | h
  · injection Option.some.inj h with _ h; injection h with _ h; exact absurd h (by decide)
  obtain ⟨w, hw, h⟩ := bind_some' h
  obtain ⟨y, hy, h⟩ := bind_some' h
  have hwl : w.length ≤ 1073741824 := by
    unfold slc at hw
    split at hw
    · rw [← Option.some.inj hw, List.length_take, List.length_drop]; omega
    · cases hw
  cases hz : y.2 != (0 : Int) with
  | true =>
    rw [hz, cond_true] at h
    injection Option.some.inj h with _ h; injection h with _ h
    rw [h] at hz; exact absurd hz (by decide)
  | false =>
    rw [hz, cond_false] at h
    injection Option.some.inj h with h _
    have h0 : y.2 = 0 := by simpa using hz
    rw [← h]
    exact meant_char hwl (r := y.1) (by rw [hy, ← h0])
theorem read_both {p : List UInt8} {v : Bool} (hp : p.length ≤ 1073741824) {t : List UInt8} {n : Int} (h : F_refer_read p v = some (t, n, 0)) : OkT t ∧ (p ≠ [] → t ≠ []) ∧ t.length ≤ 4 * p.length := by
  have okA : ∀ {l : List UInt8} {c : Int}, OkT l → charP c = true → OkT (l ++ encR c) := fun {l c} hl hc => by
    have := okT_enc c hc [] .nil
    rw [List.append_nil] at this
    exact okT_app hl this
  have encne : ∀ {c : Int}, charP c = true → encR c ≠ [] := fun {c} hc => by
    have h := of_decide_eq_true hc
    obtain ⟨r, rfl⟩ : ∃ r : Nat, c = (r : Int) := ⟨c.toNat, by omega⟩
    exact (dec_enc r (by omega) []).1
  obtain ⟨o, e, ho⟩ := iter_dec (b := F_refer_read_l0 p v) (fun x => p.length - x.2.toNat) (fun x => ∃ (l : List UInt8) (i : Nat), x = (l, (i : Int)) ∧ i ≤ p.length ∧ l.length ≤ 4 * i ∧ OkT l ∧ (0 < i → l ≠ [])) (fun o => (∀ t, o = .inl t → OkT t ∧ (p ≠ [] → t ≠ []) ∧ t.length ≤ 4 * p.length) ∧ ∀ q, o = .inr q → q.2.2 ≠ 0) (by
    rintro _ ⟨l, i, rfl, hi, hl, hok, hne0⟩
    by_cases hlt : i < p.length
    case neg =>
      right
      refine ⟨.inl l, fun rec => ?_, fun t ht => by injection ht with ht; rw [← ht]; exact ⟨hok, fun hpn => hne0 (by have := List.length_pos_iff.2 hpn; omega), by omega⟩, fun q hq => by cases hq⟩
      unfold F_refer_read_l0
      dsimp only
      rw [decide_eq_false (by omega), cond_false]
    have bad : ∀ (q : List UInt8 × Int × Int), q.2.2 ≠ 0 → (∀ rec, F_refer_read_l0 p v rec (l, (i : Int)) = some (.inr q)) → (∃ y, (∀ rec, F_refer_read_l0 p v rec (l, (i : Int)) = rec y) ∧ (∃ (l : List UInt8) (i : Nat), y = (l, (i : Int)) ∧ i ≤ p.length ∧ l.length ≤ 4 * i ∧ OkT l ∧ (0 < i → l ≠ [])) ∧ p.length - y.2.toNat < p.length - ((l, (i : Int)) : List UInt8 × Int).2.toNat) ∨ (∃ o, (∀ rec, F_refer_read_l0 p v rec (l, (i : Int)) = some o) ∧ ((∀ t, o = .inl t → OkT t ∧ (p ≠ [] → t ≠ []) ∧ t.length ≤ 4 * p.length) ∧ ∀ q, o = .inr q → q.2.2 ≠ 0)) :=
      fun q hq hr => .inr ⟨.inr q, hr, fun t ht => (by cases ht), fun q' hq' => by injection hq' with hq'; rw [← hq']; exact hq⟩
    have good : ∀ (c : Int) (m : Nat), charP c = true → i < m → m ≤ p.length → (∀ rec, F_refer_read_l0 p v rec (l, (i : Int)) = (app 1 l (encR c)).bind fun _ => rec (l ++ encR c, (m : Int))) → (∃ y, (∀ rec, F_refer_read_l0 p v rec (l, (i : Int)) = rec y) ∧ (∃ (l : List UInt8) (i : Nat), y = (l, (i : Int)) ∧ i ≤ p.length ∧ l.length ≤ 4 * i ∧ OkT l ∧ (0 < i → l ≠ [])) ∧ p.length - y.2.toNat < p.length - ((l, (i : Int)) : List UInt8 × Int).2.toNat) ∨ (∃ o, (∀ rec, F_refer_read_l0 p v rec (l, (i : Int)) = some o) ∧ ((∀ t, o = .inl t → OkT t ∧ (p ≠ [] → t ≠ []) ∧ t.length ≤ 4 * p.length) ∧ ∀ q, o = .inr q → q.2.2 ≠ 0)) := by
      intro c m hc h1 h2 hr
      have e4 : (encR c).length ≤ 4 := enc_len c
      refine .inl ⟨(l ++ encR c, (m : Int)), fun rec => ?_, ⟨_, m, rfl, h2, by rw [List.length_append]; omega, okA hok hc, fun _ hnil => encne hc (List.append_eq_nil_iff.1 hnil).2⟩, by dsimp only; omega⟩
      rw [hr, app_some (by omega) (by omega), Option.bind_some]
    have hne := drop_nn hlt
    have hpos := dec_pos hne
    have hdl : i + (decodeL (p.drop i)).2 ≤ p.length := (dec_bytes p i hlt).2.1
    cases hb : badR (decodeL (p.drop i)) with
    | true =>
      refine bad ([], (i : Int), 20) (show (20 : Int) ≠ 0 by decide) fun rec => ?_
      unfold F_refer_read_l0
      simp only [letJ]
      rw [decide_eq_true (by omega), cond_true, F_next p i hlt hp, hb, if_pos rfl, Option.bind_some]
      rfl
    | false =>
    cases hc : charP ((decodeL (p.drop i)).1 : Int) with
    | false =>
      refine bad ([], (i : Int), 21) (show (21 : Int) ≠ 0 by decide) fun rec => ?_
      unfold F_refer_read_l0
      simp only [letJ]
      rw [decide_eq_true (by omega), cond_true, F_next p i hlt hp, hb, hc, if_neg (by simp), if_neg (by simp), Option.bind_some]
      rfl
    | true =>
    by_cases h60 : (decodeL (p.drop i)).1 = 60
    · refine bad ([], (i : Int), 23) (show (23 : Int) ≠ 0 by decide) fun rec => ?_
      unfold F_refer_read_l0
      simp only [letJ]
      rw [decide_eq_true (by omega), cond_true, F_next p i hlt hp, hb, hc, if_neg (by simp), if_pos rfl, Option.bind_some, h60]
      rfl
    by_cases hx : v = true ∨ ([93, 93, 62] : List UInt8).isPrefixOf (p.drop i) = false
    case neg =>
      have hv : v = false := by cases v with
        | false => rfl
        | true => exact absurd (.inl rfl) hx
      subst hv
      have hx' : ([93, 93, 62] : List UInt8).isPrefixOf (p.drop i) = true := by
        cases hh : ([93, 93, 62] : List UInt8).isPrefixOf (p.drop i) with
        | true => rfl
        | false => exact absurd (.inr hh) hx
      refine bad ([], (i : Int), 23) (show (23 : Int) ≠ 0 by decide) fun rec => ?_
      unfold F_refer_read_l0
      simp only [letJ]
      rw [decide_eq_true (by omega), cond_true, F_next p i hlt hp, hb, hc, if_neg (by simp), if_pos rfl, Option.bind_some]
      dsimp only
      rw [show (((0 : Int)) != 0) = false from rfl, cond_false, show (((decodeL (p.drop i)).1 : Int) == (60 : Int)) = false by rw [beq_eq_false_iff_ne]; omega, cond_false]
      simp only [Bool.not_false, cond_true, slc_drop (Nat.le_of_lt hlt), Option.bind_some, hasPrefix_eq, hx', cond_false]
    have hg := fun rec => read_good (v := v) (l := l) hlt hp hb hc h60 hx rec
    cases h38 : ((decodeL (p.drop i)).1 : Int) == (38 : Int) with
    | true =>
      obtain ⟨r, n, e, he, hm⟩ := expand_sp p i hlt hp
      by_cases h0 : e = 0
      · subst h0
        obtain ⟨m, rfl, m1, m2⟩ := hm rfl
        refine good r m (expand_char hlt hp he) m1 m2 fun rec => ?_
        rw [hg, h38, cond_true, he, Option.bind_some]
        rfl
      · refine bad ([], (i : Int), e) h0 fun rec => ?_
        rw [hg, h38, cond_true, he, Option.bind_some]
        dsimp only
        rw [show (e != 0) = true by simpa using h0, cond_true]
    | false =>
    cases hw : (v && (((((decodeL (p.drop i)).1 : Int) == (9 : Int)) || (((decodeL (p.drop i)).1 : Int) == (10 : Int))) || (((decodeL (p.drop i)).1 : Int) == (13 : Int)))) with
    | true => exact good 32 _ (by decide) (by omega) hdl fun rec => by rw [hg, h38, cond_false, hw, cond_true]
    | false => exact good _ _ hc (by omega) hdl fun rec => by rw [hg, h38, cond_false, hw, cond_false]) FUEL (([] : List UInt8), (0 : Int)) ⟨[], 0, rfl, Nat.zero_le _, Nat.zero_le _, .nil, fun h => absurd h (Nat.lt_irrefl 0)⟩ (by unfold FUEL; show p.length - _ < _; omega)
  unfold F_refer_read at h
  simp only [letJ] at h
  rw [e, Option.bind_some] at h
  cases o with
  | inl q =>
    injection Option.some.inj h with h _
    exact ho.1 t (by rw [h])
  | inr q =>
    have := Option.some.inj h
    exact absurd (by rw [this]) (ho.2 q rfl)
end Go.Proofs.YtfokkdofcekdbaaDoor
set_option maxRecDepth 20000
namespace Go.Proofs.YtfokkdofcekdbaaDoor
open Go.Lib (decodeL decodeN)
theorem okT_seg {U x y : List UInt8} {i : Nat} {a c : UInt8} (h : OkT U) (hi : 0 < i) (ha : U[i - 1]? = some a) (ha1 : a.toNat < 128) (hc : c.toNat < 128) (e : U.drop i = x ++ c :: y) : OkT x := by
  obtain ⟨hlt, hg⟩ := List.getElem?_eq_some_iff.1 ha
  have e2 : U = U.take (i - 1) ++ a :: (x ++ c :: y) := by
    conv => lhs; rw [← List.take_append_drop (i - 1) U]
    rw [drop_ne hlt, hg, show i - 1 + 1 = i by omega, e]
  have h1 := okT_tail ha1 (okT_split ha1 h _ e2).2
  exact (okT_split hc h1 _ rfl).1
theorem seg13 {U x y : List UInt8} {i : Nat} (h : (13 : UInt8) ∉ U) (e : U.drop i = x ++ y) : (13 : UInt8) ∉ x := fun hm => h (List.mem_of_mem_drop (e ▸ List.mem_append_left y hm))
def NameAt (x : List UInt8) : Prop := ∃ (U : List UInt8) (i : Nat) (c : UInt8) (y : List UInt8) (s : T_scan_scanner), U.length ≤ 65536 ∧ U.drop i = x ++ c :: y ∧ c.toNat < 128 ∧ F_scan_scanner_name ⟨U, (i : Int)⟩ = some ((x, 0), s) ∧ OkT x ∧ (13 : UInt8) ∉ x
theorem nameAt_ok {x : List UInt8} (h : NameAt x) : OkT x ∧ (13 : UInt8) ∉ x := by
  obtain ⟨_, _, _, _, _, _, _, _, _, h⟩ := h
  exact h
theorem nameAt_mk {U : List UInt8} {i j : Nat} (hU : U.length ≤ 65536) (hok : OkT U) (h13 : (13 : UInt8) ∉ U) (hi : i ≤ U.length) {x : List UInt8} {c : UInt8} (h : F_scan_scanner_name ⟨U, (i : Int)⟩ = some ((x, 0), ⟨U, (j : Int)⟩)) (hc : U[j]? = some c) (h128 : c.toNat < 128)
    {a : UInt8} (hi0 : 0 < i) (ha : U[i - 1]? = some a) (ha1 : a.toNat < 128) : NameAt x := by
  obtain ⟨j', e1, h1, h2, h3, _⟩ := name_ok hi (by omega) h
  have : j' = j := by injection e1 with _ e1; omega
  subst this
  obtain ⟨hlt, hg⟩ := List.getElem?_eq_some_iff.1 hc
  have e : U.drop i = x ++ c :: U.drop (j' + 1) := by
    rw [h3]
    conv => lhs; rw [← List.take_append_drop (j' - i) (U.drop i)]
    rw [List.drop_drop, show i + (j' - i) = j' by omega, drop_ne hlt, hg]
  exact ⟨U, i, c, U.drop (j' + 1), _, hU, e, h128, h, okT_seg hok hi0 ha ha1 h128 e, seg13 h13 e⟩
theorem nameAt_read {x : List UInt8} (h : NameAt x) {V z : List UInt8} {i : Nat} {d : UInt8} (hV : V.length ≤ 1073741824) (e : V.drop i = x ++ d :: z) (hd : d.toNat < 128) (hs : ∀ i k, stopN i k (d.toNat : Int) = true) :
    F_scan_scanner_name ⟨V, (i : Int)⟩ = some ((x, 0), ⟨V, ((i + x.length : Nat) : Int)⟩) := by
  obtain ⟨U, i', c, y, s, hU, eU, hc, hn, _⟩ := h
  have hi : i ≤ V.length := by
    have := congrArg List.length e
    rw [List.length_drop, List.length_append, List.length_cons] at this; omega
  have hi' : i' ≤ U.length := by
    have := congrArg List.length eU
    rw [List.length_drop, List.length_append, List.length_cons] at this; omega
  exact (name_move (by omega) hV hi' hi eU e hc hd hs hn).2
theorem nameAt_head {x : List UInt8} (h : NameAt x) : ∃ c x', x = c :: x' ∧ (c.toNat < 128 → stopN 0 0 (c.toNat : Int) = false) := by
  obtain ⟨U, i', c, y, s, hU, eU, hc, hn, _⟩ := h
  have hi' : i' ≤ U.length := by
    have := congrArg List.length eU
    rw [List.length_drop, List.length_append, List.length_cons] at this; omega
  cases x with
  | nil =>
    obtain ⟨v, e, j, n1, _, _, _, n5⟩ := name_sp U i' hi' (by omega)
    rw [hn] at n1
    have n1 := Option.some.inj n1
    injection n1 with n1 _
    injection n1 with n1 n2
    exact absurd n1.symm (n5 n2.symm).1
  | cons c0 x' =>
    refine ⟨c0, x', rfl, fun h128 => ?_⟩
    have := name_head hi' (by omega) hn (drop_get (eU.trans (List.cons_append ..))) h128
    rw [stop_at] at this ⊢
    exact this
theorem nameAt_ne {x : List UInt8} (h : NameAt x) {c : UInt8} {x' : List UInt8} (e : x = c :: x') {d : UInt8} (hd : d.toNat < 128 ∧ stopN 0 0 (d.toNat : Int) = true) : c ≠ d := by
  obtain ⟨c0, x0, rfl, h1⟩ := nameAt_head h
  injection e with e _
  rintro rfl
  subst e
  rw [h1 hd.1] at hd
  exact absurd hd.2 (by decide)
theorem nameAt_len {x : List UInt8} (h : NameAt x) : x.length ≤ 65536 := by
  obtain ⟨U, i, c, y, s, hU, e, _⟩ := h
  have := congrArg List.length e
  rw [List.length_drop, List.length_append] at this; omega
def PairsOk (ps : List T_scan_Pair) : Prop := ∀ p ∈ ps, NameAt p.Name ∧ OkT p.Value ∧ p.Value.length ≤ 262144
theorem sk_here {U : List UInt8} {j : Nat} (hj : j ≤ U.length) {c : UInt8} (h : U[sk wsP U j]? = some c) (hc : c.toNat < 128) : ∃ d, U[j]? = some d ∧ d.toNat < 128 := by
  obtain ⟨s1, s2⟩ := sk_le wsP U j hj
  by_cases he : sk wsP U j = j
  · exact ⟨c, by rw [he] at h; exact h, hc⟩
  · obtain ⟨d, d1, d2⟩ := sk_all (P := wsP) (s := U) (i := j) (k := j) 0 rfl (by omega)
    exact ⟨d, d1, ws_lo d d2⟩
theorem tag_l0_good {U : List UInt8} (hU' : U.length ≤ 65536) (hok : OkT U) (h13 : (13 : UInt8) ∉ U) (At : Int) (Nm Tx : List UInt8) (rf : Int) (f : Nat) (t' : Tk) :
    ∀ (m j : Nat) (ps : List T_scan_Pair) (y z : List UInt8), j ≤ U.length → ps.length ≤ j → PairsOk ps → iter F_scan_scanner_tag_l0 m (U, (j : Int), (2 : Int), At, Nm, ps, Tx, rf, y, z) = some (0, ⟨U, (f : Int)⟩, t') →
      PairsOk t'.Pairs ∧ (t' = ⟨2, At, Nm, t'.Pairs, Tx, rf⟩ ∨ t' = ⟨4, At, Nm, t'.Pairs, Tx, rf⟩) ∧ ∃ c, U[j]? = some c ∧ c.toNat < 128
  | 0, j, ps, y, z, _, _, _, h => by cases h
  | m + 1, j, ps, y, z, g2, g3, hp, h => by
    have hU : U.length ≤ 1073741824 := by omega
    rcases tag_l0_cases hU At Nm Tx rf f t' m j ps y z g2 g3 h with ⟨c1, _, rfl⟩ | ⟨c1, rfl⟩ | ⟨nm, rv, val, n, k1, k2, k3, s1, s2, s3, s4, s5, s6, s7, s8, s9, s10, h⟩
    · exact ⟨hp, .inr rfl, sk_here g2 (hereP_get c1) (by decide)⟩
    · exact ⟨hp, .inl rfl, sk_here g2 (hereP_get c1) (by decide)⟩
    · obtain ⟨sl1, sl2⟩ := sk_le wsP U j g2
      obtain ⟨d, d1, d2⟩ := sk_all (P := wsP) (s := U) (i := j) (k := j) 0 rfl s1
      obtain ⟨_, _, _, e61, _, _⟩ := equals_ok s4 hU s5
      obtain ⟨c, c1, c2⟩ := sk_here s4 (hereP_get e61) (by decide)
      obtain ⟨a, a1, a2⟩ := sk_all (P := wsP) (s := U) (i := j) (k := sk wsP U j - 1) (sk wsP U j - 1 - j) (by omega) (by omega)
      have hnm := nameAt_mk hU' hok h13 sl2 s2 c1 c2 (by omega) a1 (ws_lo a a2)
      obtain ⟨v, e3, k4, w1, _, _, w4, _⟩ := quoted_sp U k2 s6 hU
      have hrv : rv.length ≤ 65536 := by
        rw [w1] at s7
        have s7 := Option.some.inj s7
        injection s7 with s7 _
        injection s7 with s7 _
        rw [← s7]; omega
      have hval : OkT val ∧ val.length ≤ 262144 := by
        unfold F_refer_ReadValue at s10
        obtain ⟨r, r1, r2⟩ := bind_some' s10
        have r2 := Option.some.inj r2
        injection r2 with r2 r3
        injection r3 with r3 r4
        have hb := read_both (by omega) (t := val) (n := n) (show F_refer_read rv true = _ by rw [r1, ← r2, ← r3, ← r4])
        exact ⟨hb.1, by have := hb.2.2; omega⟩
      have hp' : PairsOk (ps ++ [⟨nm, val⟩]) := by
        intro p hmem
        rcases List.mem_append.1 hmem with hmem | hmem
        · exact hp p hmem
        · rw [List.mem_singleton.1 hmem]; exact ⟨hnm, hval⟩
      obtain ⟨q1, q2, _⟩ := tag_l0_good hU' hok h13 At Nm Tx rf f t' m k3 _ nm val s8 (by simpa using s9) hp' h
      exact ⟨q1, q2, d, d1, ws_lo d d2⟩
theorem tag_good {U : List UInt8} (hU' : U.length ≤ 65536) (hok : OkT U) (h13 : (13 : UInt8) ∉ U) {i f : Nat} {t t' : Tk} (hi : i + 1 ≤ U.length) (h60 : U[i]? = some 60) (hp : t.Pairs = []) (h : F_scan_scanner_tag ⟨U, (i : Int)⟩ t = some (0, ⟨U, (f : Int)⟩, t')) :
    NameAt t'.Name ∧ PairsOk t'.Pairs ∧ (t' = ⟨2, t.At, t'.Name, t'.Pairs, t.Text, t.Refs⟩ ∨ t' = ⟨4, t.At, t'.Name, t'.Pairs, t.Text, t.Refs⟩) := by
  have hU : U.length ≤ 1073741824 := by omega
  unfold F_scan_scanner_tag at h
  dsimp only at h
  rw [w64 (x := (i : Int) + 1) (by omega) (by omega), show (i : Int) + 1 = ((i + 1 : Nat) : Int) by omega] at h
  obtain ⟨v, e, j, h1, h2, h3, h4, h5⟩ := name_sp U (i + 1) hi hU
  rw [h1, Option.bind_some] at h
  dsimp only at h
  by_cases he : e = 0
  case neg =>
    rw [show (e != 0) = true by simpa using he, cond_true] at h
    exact absurd (inj3 h).1 he
  subst he
  have hbind : ∀ o : Option (Int × T_scan_scanner × T_scan_Token), (o.bind fun x => some x) = o := fun o => by cases o <;> rfl
  rw [show ((0 : Int) != 0) = false from rfl, cond_false, hbind] at h
  obtain ⟨q1, q2, c, c1, c2⟩ := tag_l0_good hU' hok h13 t.At v t.Text t.Refs f t' FUEL j t.Pairs [] [] h3 (by rw [hp]; exact Nat.zero_le _) (by rw [hp]; intro p hp; cases hp) h
  have hv : t'.Name = v := by rcases q2 with q2 | q2 <;> rw [q2]
  rw [hv]
  exact ⟨nameAt_mk hU' hok h13 hi h1 c1 c2 (by omega) (a := 60) (by simpa using h60) (by decide), q1, q2⟩
structure QW (q : UInt8) (E : UInt8 → List UInt8) : Prop where
  hq : q = 34 ∨ q = 39
  esc : Esc true E
  no : ∀ c, q ∉ E c
  n13 : ∀ c, (13 : UInt8) ∉ E c
  ok : ∀ c, charP (c.toNat : Int) = true → c.toNat < 128 → OkT (E c)
  hi : ∀ c, 128 ≤ c.toNat → E c = [c]
  le : ∀ c, (E c).length ≤ 8
  ne : ∀ c, 1 ≤ (E c).length
theorem okT_asc : ∀ (w : List UInt8), (∀ c ∈ w, c.toNat < 128 ∧ charP (c.toNat : Int) = true) → OkT w
  | [], _ => .nil
  | c :: w, h => okT_ascii c _ (h c List.mem_cons_self).1 (h c List.mem_cons_self).2 (okT_asc w fun d hd => h d (List.mem_cons_of_mem _ hd))
theorem qw_qu : QW 34 quE := by
  have h : ∀ c : UInt8, (decide ((34 : UInt8) ∉ quE c) && (decide ((13 : UInt8) ∉ quE c) && (decide (128 ≤ c.toNat → quE c = [c]) && (decide ((quE c).length ≤ 8 ∧ 1 ≤ (quE c).length) && ((quE c).all fun d => decide (c.toNat < 128 ∧ charP (c.toNat : Int) = true → d.toNat < 128 ∧ charP (d.toNat : Int) = true)))))) = true := all_u8 (by decide +kernel)
  have g := fun c => h c
  simp only [Bool.and_eq_true, decide_eq_true_eq, List.all_eq_true] at g
  refine ⟨.inl rfl, esc_qu, fun c => (g c).1, fun c => (g c).2.1, fun c hc h1 => ?_, fun c => (g c).2.2.1, fun c => (g c).2.2.2.1.1, fun c => (g c).2.2.2.1.2⟩
  exact okT_asc (quE c) (fun d hd => (g c).2.2.2.2 d hd ⟨h1, hc⟩)
theorem qw_ap : QW 39 apE := by
  have h : ∀ c : UInt8, (decide ((39 : UInt8) ∉ apE c) && (decide ((13 : UInt8) ∉ apE c) && (decide (128 ≤ c.toNat → apE c = [c]) && (decide ((apE c).length ≤ 8 ∧ 1 ≤ (apE c).length) && ((apE c).all fun d => decide (c.toNat < 128 ∧ charP (c.toNat : Int) = true → d.toNat < 128 ∧ charP (d.toNat : Int) = true)))))) = true := all_u8 (by decide +kernel)
  have g := fun c => h c
  simp only [Bool.and_eq_true, decide_eq_true_eq, List.all_eq_true] at g
  refine ⟨.inr rfl, esc_ap, fun c => (g c).1, fun c => (g c).2.1, fun c hc h1 => ?_, fun c => (g c).2.2.1, fun c => (g c).2.2.2.1.1, fun c => (g c).2.2.2.1.2⟩
  exact okT_asc (apE c) (fun d hd => (g c).2.2.2.2 d hd ⟨h1, hc⟩)
theorem not_mem_flat {E : UInt8 → List UInt8} {q : UInt8} (h : ∀ c, q ∉ E c) (t : List UInt8) : q ∉ t.flatMap E := fun hm => by
  obtain ⟨c, _, hc⟩ := List.mem_flatMap.1 hm
  exact h c hc
theorem okT_flat {E : UInt8 → List UInt8} (hok : ∀ c, charP (c.toNat : Int) = true → c.toNat < 128 → OkT (E c)) (hhi : ∀ c, 128 ≤ c.toNat → E c = [c]) {t : List UInt8} (ht : OkT t) : OkT (t.flatMap E) := by
  induction ht with
  | nil => exact .nil
  | @cons t h1 h2 h3 h4 ih =>
    cases t with
    | nil => exact absurd rfl h1
    | cons c t' =>
    by_cases hc : c.toNat < 128
    · rw [dec_ascii c t' hc] at h3 ih
      rw [List.flatMap_cons]
      exact okT_app (hok c h3 hc) ih
    · have hp := dec_pos h1
      obtain ⟨_, _, _, d4⟩ := dec_bytes (c :: t') 0 (by simp)
      rw [List.drop_zero] at d4
      have hone := okT_one h1 h2 h3
      generalize hT : c :: t' = T at *
      have hu : ∀ b ∈ T.take (decodeL T).2, E b = [b] := by
        intro b hb
        refine hhi b ?_
        obtain ⟨k, hk⟩ := List.mem_iff_getElem?.1 hb
        have hkl : k < (decodeL T).2 := by
          have := (List.getElem?_eq_some_iff.1 hk).1
          rw [List.length_take] at this; omega
        rw [List.getElem?_take_of_lt hkl] at hk
        cases k with
        | zero =>
          rw [← hT] at hk
          have : c = b := by simpa using hk
          rw [← this]; omega
        | succ k =>
          have := d4 (k + 1) (by omega) hkl
          rw [Nat.zero_add] at this
          simp [List.getD, hk] at this
          exact this
      have hfu : (T.take (decodeL T).2).flatMap E = T.take (decodeL T).2 := by
        have : ∀ u : List UInt8, (∀ b ∈ u, E b = [b]) → u.flatMap E = u := by
          intro u
          induction u with
          | nil => intro _; rfl
          | cons b u ih => intro h; rw [List.flatMap_cons, h b List.mem_cons_self, ih (fun d hd => h d (List.mem_cons_of_mem _ hd))]; rfl
        exact this _ hu
      conv => rw [← List.take_append_drop (decodeL T).2 T]
      rw [List.flatMap_append, hfu]
      exact okT_app hone ih
def shP (q : UInt8) (E : UInt8 → List UInt8) (ps : List T_scan_Pair) : List UInt8 := ps.flatMap fun p => 32 :: (p.Name ++ 61 :: q :: (p.Value.flatMap E ++ [q]))
theorem shP_cons (q : UInt8) (E : UInt8 → List UInt8) (p : T_scan_Pair) (ps : List T_scan_Pair) : shP q E (p :: ps) = 32 :: (p.Name ++ 61 :: q :: (p.Value.flatMap E ++ q :: shP q E ps)) := by
  unfold shP; rw [List.flatMap_cons]; simp
theorem tag_l0_end2 {U : List UInt8} (hU : U.length ≤ 1073741824) (At : Int) (Nm Tx : List UInt8) (rf : Int) (m j : Nat) (ps : List T_scan_Pair) (y z : List UInt8) (g2 : j ≤ U.length) (c0 : hereP U (sk wsP U j) [47, 62] = false) (c1 : hereP U (sk wsP U j) [62] = true) :
    iter F_scan_scanner_tag_l0 (m + 1) (U, (j : Int), (2 : Int), At, Nm, ps, Tx, rf, y, z) = some (0, ⟨U, ((sk wsP U j + 1 : Nat) : Int)⟩, ⟨2, At, Nm, ps, Tx, rf⟩) := by
  rw [show iter F_scan_scanner_tag_l0 (m + 1) (U, (j : Int), (2 : Int), At, Nm, ps, Tx, rf, y, z) = F_scan_scanner_tag_l0 (iter F_scan_scanner_tag_l0 m) (U, (j : Int), (2 : Int), At, Nm, ps, Tx, rf, y, z) from rfl]
  generalize hI : iter F_scan_scanner_tag_l0 m = I
  unfold F_scan_scanner_tag_l0
  dsimp only
  obtain ⟨s1, s2⟩ := sk_le wsP U j g2
  rw [spaces_eq U (j : Int) j g2 hU, Option.bind_some, here_eq U _ _ s2, Option.bind_some, c0, cond_false, here_eq U _ _ s2, Option.bind_some, c1, cond_true, sign_eq U _ _ s2 hU, c1, if_pos rfl, Option.bind_some]
  rfl
theorem tag_l0_more {U : List UInt8} (hU : U.length ≤ 1073741824) (At : Int) (Nm Tx : List UInt8) (rf : Int) (m j : Nat) (ps : List T_scan_Pair) (y z : List UInt8) (g2 : j ≤ U.length) (gp : ps.length ≤ 1073741824) (c1 : hereP U (sk wsP U j) [47, 62] = false) (c2 : hereP U (sk wsP U j) [62] = false) (c3 : j < sk wsP U j)
    {nm rv val : List UInt8} {n : Int} {k1 k2 k3 : Nat} (h1 : F_scan_scanner_name ⟨U, ((sk wsP U j : Nat) : Int)⟩ = some ((nm, 0), ⟨U, (k1 : Int)⟩)) (h2 : F_scan_scanner_equals ⟨U, (k1 : Int)⟩ = some (0, ⟨U, (k2 : Int)⟩))
    (h3 : F_scan_scanner_quoted ⟨U, (k2 : Int)⟩ = some ((rv, 0), ⟨U, (k3 : Int)⟩)) (h4 : F_refer_ReadValue rv = some (val, n, 0)) (hno : ∀ p ∈ ps, p.Name ≠ nm) :
    iter F_scan_scanner_tag_l0 (m + 1) (U, (j : Int), (2 : Int), At, Nm, ps, Tx, rf, y, z) = iter F_scan_scanner_tag_l0 m (U, (k3 : Int), (2 : Int), At, Nm, ps ++ [⟨nm, val⟩], Tx, rf, nm, val) := by
  rw [show iter F_scan_scanner_tag_l0 (m + 1) (U, (j : Int), (2 : Int), At, Nm, ps, Tx, rf, y, z) = F_scan_scanner_tag_l0 (iter F_scan_scanner_tag_l0 m) (U, (j : Int), (2 : Int), At, Nm, ps, Tx, rf, y, z) from rfl]
  generalize hI : iter F_scan_scanner_tag_l0 m = I
  unfold F_scan_scanner_tag_l0
  dsimp only
  obtain ⟨s1, s2⟩ := sk_le wsP U j g2
  have c3' : (((sk wsP U j : Nat) : Int) == (j : Int)) = false := by rw [beq_eq_false_iff_ne]; omega
  rw [spaces_eq U (j : Int) j g2 hU, Option.bind_some, here_eq U _ _ s2, Option.bind_some, c1, cond_false, here_eq U _ _ s2, Option.bind_some, c2, cond_false, c3', cond_false, h1, Option.bind_some]
  dsimp only
  rw [show ((0 : Int) != 0) = false from rfl, cond_false, h2, Option.bind_some]
  dsimp only
  rw [show ((0 : Int) != 0) = false from rfl, cond_false, h3, Option.bind_some]
  dsimp only
  rw [show ((0 : Int) != 0) = false from rfl, cond_false, h4, Option.bind_some]
  dsimp only
  rw [show ((0 : Int) != 0) = false from rfl, cond_false]
  simp only [letJ]
  rw [tag_l1_no 2 At Nm ps Tx rf ((nm, 0), ⟨U, (k1 : Int)⟩) ((rv, 0), ⟨U, (k3 : Int)⟩) gp hno, Option.bind_some]
  dsimp only
  rw [app_some (by simp; omega) (by simp; omega), Option.bind_some, Option.bind_some]
theorem quoted_at {U rv R : List UInt8} {i : Nat} {q : UInt8} (hU : U.length ≤ 1073741824) (hq : q = 34 ∨ q = 39) (h : U.drop i = q :: (rv ++ q :: R)) (hn : q ∉ rv) : F_scan_scanner_quoted ⟨U, (i : Int)⟩ = some ((rv, 0), ⟨U, ((i + (rv.length + 2) : Nat) : Int)⟩) := by
  have hlt := drop_lt h
  have hg : U[i]? = some q := drop_get h
  rw [quoted_eq U i (by omega) hU]
  unfold quo
  have hix : Lib.indexByte (rv ++ q :: R) q = (rv.length : Int) := by
    refine ixB_of (by simp) fun k hk => ?_
    rw [List.getElem?_append_left hk]
    exact fun hc => hn (List.mem_of_getElem? hc)
  rw [show U.getD i 0 = q by simp [List.getD, hg], drop_go1 h, hix, if_pos ⟨by rcases hq with rfl | rfl <;> simp [hereP_one, hg], by omega⟩, Int.toNat_natCast, List.take_left]
theorem readValue_of {w t : List UInt8} (h : F_refer_read w true = some (t, 0, 0)) : F_refer_ReadValue w = some (t, 0, 0) := by
  unfold F_refer_ReadValue; rw [h, Option.bind_some]
theorem stop_of {d : UInt8} (h : (d.toNat : Int) ≠ 58 ∧ partP (d.toNat : Int) = false) : ∀ i k, stopN i k (d.toNat : Int) = true := fun i k => by
  unfold stopN
  rw [h.2, show ((d.toNat : Int) != 58) = true by simpa using h.1]; rfl
theorem here_cons {U r : List UInt8} {j : Nat} {c : UInt8} (h : U.drop j = c :: r) (d : UInt8) (w : List UInt8) (hd : d ≠ c) : hereP U j (d :: w) = false := by
  unfold hereP; rw [h]; simp [List.isPrefixOf, hd]
theorem pairs_read {q : UInt8} {E : UInt8 → List UInt8} (W : QW q E) {U : List UInt8} (hU : U.length ≤ 65536) (At : Int) (Nm : List UInt8) (lone : Bool) (R : List UInt8) :
    ∀ (ps2 ps1 : List T_scan_Pair) (j m : Nat) (y z : List UInt8), U.drop j = shP q E ps2 ++ (if lone then [47, 62] else [62]) ++ R → PairsOk ps2 → (nmP (ps1 ++ ps2)).Nodup → ps1.length ≤ j → ps2.length < m →
      iter F_scan_scanner_tag_l0 m (U, (j : Int), (2 : Int), At, Nm, ps1, [], (0 : Int), y, z) = some (0, ⟨U, ((j + (shP q E ps2).length + (if lone then 2 else 1) : Nat) : Int)⟩, ⟨if lone then 4 else 2, At, Nm, ps1 ++ ps2, [], 0⟩)
  | [], ps1, j, m, y, z, h, _, _, _, hm => by
    obtain ⟨m, rfl⟩ : ∃ k, m = k + 1 := ⟨m - 1, by simp at hm; omega⟩
    have hUb : U.length ≤ 1073741824 := by omega
    rw [show shP q E [] = [] from rfl, List.nil_append] at h
    cases lone with
    | true =>
      simp only [if_true] at h ⊢
      have hs : sk wsP U j = j := sk_pass [] (b := U) (i := j) (c := 47) (y := 62 :: R) h (by simp) (by decide)
      have := drop_lt h
      rw [tag_l0_end hUb At Nm [] 0 m j ps1 y z (by omega) (by rw [hs]; unfold hereP; rw [h]; rfl), hs, List.append_nil]
      rfl
    | false =>
      simp only [Bool.false_eq_true, if_false] at h ⊢
      have hs : sk wsP U j = j := sk_pass [] (b := U) (i := j) (c := 62) (y := R) h (by simp) (by decide)
      have := drop_lt h
      rw [tag_l0_end2 hUb At Nm [] 0 m j ps1 y z (by omega) (by rw [hs]; unfold hereP; rw [h]; rfl) (by rw [hs]; unfold hereP; rw [h]; rfl), hs, List.append_nil]
      rfl
  | p :: ps2, ps1, j, m, y, z, h, hp, hnd, hl, hm => by
    obtain ⟨m, rfl⟩ : ∃ k, m = k + 1 := ⟨m - 1, by simp at hm; omega⟩
    have hUb : U.length ≤ 1073741824 := by omega
    obtain ⟨hN, hV, _⟩ := hp p List.mem_cons_self
    obtain ⟨c0, x', hx, hst⟩ := nameAt_head hN
    have d0 : U.drop j = [32] ++ (p.Name ++ 61 :: (q :: (p.Value.flatMap E ++ q :: (shP q E ps2 ++ (if lone then [47, 62] else [62]) ++ R)))) := by rw [h, shP_cons]; simp
    have d1 := drop_go d0
    have wc0 : wsP c0 = false := by
      cases hw : wsP c0 with
      | false => rfl
      | true =>
        have := hst (ws_lo c0 hw)
        rw [stop_ws c0 (.inl hw)] at this
        cases this
    have hs : sk wsP U j = j + 1 := sk_pass [32] (b := U) (i := j) (c := c0) (y := x' ++ 61 :: (q :: (p.Value.flatMap E ++ q :: (shP q E ps2 ++ (if lone then [47, 62] else [62]) ++ R)))) (by rw [d0, hx]; rfl) (by decide) wc0
    have d1' : U.drop (j + 1) = p.Name ++ 61 :: (q :: (p.Value.flatMap E ++ q :: (shP q E ps2 ++ (if lone then [47, 62] else [62]) ++ R))) := d1
    have d2 := drop_go d1'
    have d3 := drop_go1 d2
    have l3 := drop_lt d3
    have hn := nameAt_read hN hUb d1' (by decide) (stop_ws 61 (.inr rfl))
    have wq : wsP q = false := by rcases W.hq with rfl | rfl <;> decide
    have hs2 : sk wsP U (j + 1 + p.Name.length) = j + 1 + p.Name.length := sk_pass [] (b := U) (c := 61) d2 (by simp) (by decide)
    have hs3 : sk wsP U (j + 1 + p.Name.length + 1) = j + 1 + p.Name.length + 1 := sk_pass [] (b := U) (c := q) d3 (by simp) wq
    have heq : F_scan_scanner_equals ⟨U, ((j + 1 + p.Name.length : Nat) : Int)⟩ = some (0, ⟨U, ((j + 1 + p.Name.length + 1 : Nat) : Int)⟩) := by
      rw [equals_eq U _ (by omega) hUb, hs2, if_pos (by rw [hereP_one, drop_get d2]; simp), hs3]
    have hqu := quoted_at hUb W.hq d3 (not_mem_flat W.no p.Value)
    have hvl : (p.Value.flatMap E).length ≤ 65536 := by
      have := congrArg List.length d3
      rw [List.length_drop, List.length_cons, List.length_append] at this; omega
    have hvl2 : p.Value.length ≤ (p.Value.flatMap E).length := by
      have : ∀ v : List UInt8, v.length ≤ (v.flatMap E).length := by
        have hpos := W.ne
        intro v
        induction v with
        | nil => simp
        | cons c v ih => rw [List.flatMap_cons, List.length_append, List.length_cons]; have := hpos c; omega
      exact this _
    have hrd := readValue_of (read_back W.esc hV (by omega) (by omega) (fun h => by cases h))
    have ne0 : ∀ d : UInt8, d.toNat < 128 ∧ stopN 0 0 (d.toNat : Int) = true → d ≠ c0 := fun d hd => (nameAt_ne hN hx hd).symm
    have d1c : U.drop (sk wsP U j) = c0 :: (x' ++ 61 :: (q :: (p.Value.flatMap E ++ q :: (shP q E ps2 ++ (if lone then [47, 62] else [62]) ++ R)))) := by rw [hs, d1', hx]; rfl
    have hno : ∀ r ∈ ps1, r.Name ≠ p.Name := by
      intro r hr he
      unfold nmP at hnd
      rw [List.map_append, List.nodup_append] at hnd
      exact hnd.2.2 r.Name (List.mem_map.2 ⟨r, hr, rfl⟩) p.Name (List.mem_map.2 ⟨p, List.mem_cons_self, rfl⟩) he
    rw [tag_l0_more hUb At Nm [] 0 m j ps1 y z (by omega) (by omega) (here_cons d1c 47 _ (ne0 47 (by decide))) (here_cons d1c 62 _ (ne0 62 (by decide))) (by omega) (by rw [hs]; exact hn) heq hqu hrd hno]
    have d4 := drop_go (drop_go1 d3)
    have d5 := drop_go1 d4
    have := pairs_read W hU At Nm lone R ps2 (ps1 ++ [p]) (j + 1 + p.Name.length + 1 + ((p.Value.flatMap E).length + 2)) m p.Name p.Value (by rw [← d5]; congr 1; omega) (fun r hr => hp r (List.mem_cons_of_mem _ hr)) (by rw [List.append_assoc]; exact hnd) (by simp; omega) (by simp at hm; omega)
    rw [show ({ Name := p.Name, Value := p.Value } : T_scan_Pair) = p from rfl, this, shP_cons]
    rw [List.append_assoc]
    simp only [List.length_cons, List.length_append]
    congr 5
    omega
theorem tag_read {q : UInt8} {E : UInt8 → List UInt8} (W : QW q E) {U : List UInt8} (hU : U.length ≤ 65536) {i : Nat} {nm : List UInt8} {ps : List T_scan_Pair} (lone : Bool) {R : List UInt8}
    (h : U.drop i = 60 :: (nm ++ (shP q E ps ++ (if lone then [47, 62] else [62]) ++ R))) (hN : NameAt nm) (hp : PairsOk ps) (hnd : (nmP ps).Nodup) :
    F_scan_scanner_tag ⟨U, (i : Int)⟩ (tok0 i) = some (0, ⟨U, ((i + 1 + nm.length + (shP q E ps).length + (if lone then 2 else 1) : Nat) : Int)⟩, ⟨if lone then 4 else 2, (i : Int), nm, ps, [], 0⟩) := by
  have hUb : U.length ≤ 1073741824 := by omega
  have h1 := drop_go1 h
  have hlt := drop_lt h
  obtain ⟨d, z, hz, hd⟩ : ∃ d z, shP q E ps ++ (if lone then [47, 62] else [62]) ++ R = d :: z ∧ (wsP d = true ∨ d = 47 ∨ d = 62) := by
    cases ps with
    | nil => cases lone <;> exact ⟨_, _, rfl, by simp⟩
    | cons p ps => exact ⟨32, _, by rw [shP_cons]; rfl, .inl (by decide)⟩
  have hd1 : d.toNat < 128 := by
    rcases hd with hd | rfl | rfl
    · exact ws_lo d hd
    · decide
    · decide
  have hd2 : ∀ i k, stopN i k (d.toNat : Int) = true := by
    rcases hd with hd | rfl | rfl
    · exact stop_ws d (.inl hd)
    · exact stop_of (by decide)
    · exact stop_of (by decide)
  have hn := nameAt_read hN hUb (h1.trans (by rw [hz])) hd1 hd2
  have h2 := drop_go h1
  have hlt2 : i + 1 + nm.length < U.length := by rw [hz] at h2; exact drop_lt h2
  unfold F_scan_scanner_tag
  dsimp only
  rw [w64 (x := (i : Int) + 1) (by omega) (by omega), show (i : Int) + 1 = ((i + 1 : Nat) : Int) by omega, hn, Option.bind_some]
  dsimp only
  have hbind : ∀ o : Option (Int × T_scan_scanner × T_scan_Token), (o.bind fun x => some x) = o := fun o => by cases o <;> rfl
  have hpl : ps.length ≤ (shP q E ps).length := by
    unfold shP
    have : ∀ l : List T_scan_Pair, l.length ≤ (l.flatMap fun p => 32 :: (p.Name ++ 61 :: q :: (p.Value.flatMap E ++ [q]))).length := by
      intro l
      induction l with
      | nil => simp
      | cons p l ih => rw [List.flatMap_cons, List.length_append, List.length_cons, List.length_cons]; omega
    exact this ps
  have hl3 := congrArg List.length h2
  rw [List.length_drop, List.length_append, List.length_append] at hl3
  rw [show ((0 : Int) != 0) = false from rfl, cond_false, hbind, pairs_read W hU (i : Int) nm lone R ps [] (i + 1 + nm.length) FUEL [] [] h2 hp hnd (Nat.zero_le _) (by unfold FUEL; omega), List.nil_append]
end Go.Proofs.YtfokkdofcekdbaaDoor
set_option maxRecDepth 20000
namespace Go.Proofs.YtfokkdofcekdbaaDoor
open Go.Lib (decodeL decodeN)
def First (x w : List UInt8) : Prop := ∀ R, Lib.index (x ++ (w ++ R)) w = (x.length : Int)
theorem first_of {s w : List UInt8} {m : Nat} (hw : w ≠ []) (h : Lib.index s w = (m : Int)) : First (s.take m) w ∧ ∃ R, s = s.take m ++ (w ++ R) := by
  obtain ⟨o1, o2⟩ := index_occ h hw
  have hml : (s.take m).length = m := by rw [List.length_take]; omega
  have hx : ∃ R, s = s.take m ++ (w ++ R) := by
    rw [List.isPrefixOf_iff_prefix] at o1
    obtain ⟨R, hR⟩ := o1
    exact ⟨R, by rw [hR, List.take_append_drop]⟩
  refine ⟨fun R => ?_, hx⟩
  obtain ⟨R0, hs⟩ := hx
  have oc : ∀ k, k ≤ m → Lib.occAt (s.take m ++ (w ++ R)) w k = Lib.occAt s w k := by
    intro k hk
    have e : ∀ R, ((s.take m ++ (w ++ R)).drop k).take w.length = ((s.take m ++ w).drop k).take w.length := fun R => by
      rw [← List.append_assoc, List.drop_append_of_le_length (by rw [List.length_append, hml]; omega), List.take_append_of_le_length (by rw [List.length_drop, List.length_append, hml]; omega)]
    show w.isPrefixOf _ = w.isPrefixOf _
    rw [isPre_take, isPre_take]
    have hl1 : w.length ≤ ((s.take m ++ (w ++ R)).drop k).length := by rw [List.length_drop, List.length_append, List.length_append, hml]; omega
    have hl2 : w.length ≤ (s.drop k).length := by rw [List.length_drop]; omega
    rw [decide_eq_true hl1, decide_eq_true hl2, e R]
    conv => rhs; rw [hs, e R0]
  rw [hml]
  rcases Lib.index_spec s w with ⟨g, _⟩ | ⟨i, g1, g2, g3, g4⟩
  · omega
  · have : i = m := by omega
    subst this
    refine Lib.index_first (by rw [List.length_append, hml]; omega) (by rw [oc i (Nat.le_refl _)]; exact g3) fun k hk => ?_
    rw [oc k (by omega)]
    exact g4 k hk
theorem upTo_good {U : List UInt8} (hU : U.length ≤ 1073741824) {i k j : Nat} {t t' : Tk} {w : List UInt8} (hw : w ≠ []) (hwl : w.length ≤ 100) (hi : i + k ≤ U.length) (h : F_scan_scanner_upTo ⟨U, (i : Int)⟩ t (k : Int) w = some (0, ⟨U, (j : Int)⟩, t')) :
    ∃ x R, U.drop (i + k) = x ++ (w ++ R) ∧ First x w ∧ j = i + k + x.length + w.length ∧ t' = ⟨t.Kind, t.At, t.Name, t.Pairs, x, t.Refs⟩ := by
  unfold F_scan_scanner_upTo at h
  dsimp only at h
  rw [w64 (x := (i : Int) + (k : Int)) (by omega) (by omega), show (i : Int) + (k : Int) = ((i + k : Nat) : Int) by omega, slc_drop (by omega), Option.bind_some] at h
  unfold L_bIndex at h
  rw [if_pos ⟨by rw [List.length_drop]; omega, by omega, hw⟩, Option.bind_some] at h
  by_cases hn : Lib.index (U.drop (i + k)) w < 0
  · rw [decide_eq_true hn, cond_true] at h
    have h := Option.some.inj h
    injection h with h _
    cases h
  · obtain ⟨m, e1⟩ : ∃ m : Nat, Lib.index (U.drop (i + k)) w = (m : Int) := ⟨(Lib.index (U.drop (i + k)) w).toNat, by omega⟩
    obtain ⟨_, e2⟩ := index_occ e1 hw
    have hwp : 0 < w.length := List.length_pos_iff.2 hw
    rw [List.length_drop] at e2
    rw [decide_eq_false hn, cond_false, e1, slc_take0 (by rw [List.length_drop]; omega), Option.bind_some, w64 (x := (k : Int) + (m : Int)) (by omega) (by omega), w64 (x := (k : Int) + (m : Int) + (w.length : Int)) (by omega) (by omega), w64 (by omega) (by omega)] at h
    have h := Option.some.inj h
    injection h with _ h
    injection h with h3 h4
    injection h3 with _ h3
    obtain ⟨f1, R, f2⟩ := first_of hw e1
    have hml : ((U.drop (i + k)).take m).length = m := by rw [List.length_take, List.length_drop]; omega
    exact ⟨_, R, f2, f1, by rw [hml]; omega, h4.symm⟩
theorem upTo_read {U : List UInt8} (hU : U.length ≤ 1073741824) {i k : Nat} {t : Tk} {x w R : List UInt8} (hw : w ≠ []) (hwl : w.length ≤ 100) (e : U.drop (i + k) = x ++ (w ++ R)) (hf : First x w) :
    F_scan_scanner_upTo ⟨U, (i : Int)⟩ t (k : Int) w = some (0, ⟨U, ((i + k + x.length + w.length : Nat) : Int)⟩, ⟨t.Kind, t.At, t.Name, t.Pairs, x, t.Refs⟩) := by
  have hl := congrArg List.length e
  have hwp : 0 < w.length := List.length_pos_iff.2 hw
  rw [List.length_drop, List.length_append, List.length_append] at hl
  unfold F_scan_scanner_upTo
  dsimp only
  rw [w64 (x := (i : Int) + (k : Int)) (by omega) (by omega), show (i : Int) + (k : Int) = ((i + k : Nat) : Int) by omega, slc_drop (by omega), Option.bind_some]
  unfold L_bIndex
  rw [if_pos ⟨by rw [List.length_drop]; omega, by omega, hw⟩, Option.bind_some, e, hf R, decide_eq_false (by omega), cond_false, slc_take0 (by rw [List.length_append]; omega), Option.bind_some, List.take_left, w64 (x := (k : Int) + (x.length : Int)) (by omega) (by omega), w64 (x := (k : Int) + (x.length : Int) + (w.length : Int)) (by omega) (by omega), w64 (by omega) (by omega)]
  congr 3
  congr 1
  omega
theorem closing_good {U : List UInt8} (hU' : U.length ≤ 65536) (hok : OkT U) (h13 : (13 : UInt8) ∉ U) {i f : Nat} {t t' : Tk} (hi : i + 2 ≤ U.length) (h47 : hereP U i [60, 47] = true) (h : F_scan_scanner_closing ⟨U, (i : Int)⟩ t = some (0, ⟨U, (f : Int)⟩, t')) :
    NameAt t'.Name ∧ t' = ⟨3, t.At, t'.Name, t.Pairs, t.Text, t.Refs⟩ := by
  have hU : U.length ≤ 1073741824 := by omega
  unfold F_scan_scanner_closing at h
  dsimp only at h
  rw [w64 (x := (i : Int) + 2) (by omega) (by omega), show (i : Int) + 2 = ((i + 2 : Nat) : Int) by omega] at h
  obtain ⟨v, e, j, h1, h2, h3, h4, h5⟩ := name_sp U (i + 2) hi hU
  rw [h1, Option.bind_some] at h
  dsimp only at h
  by_cases he : e = 0
  case neg =>
    rw [show (e != 0) = true by simpa using he, cond_true] at h
    exact absurd (inj3 h).1 he
  subst he
  obtain ⟨s1, s2⟩ := sk_le wsP U j h3
  rw [show ((0 : Int) != 0) = false from rfl, cond_false, spaces_eq U _ j h3 hU, Option.bind_some, sign_eq U _ _ s2 hU, Option.bind_some] at h
  cases hh : hereP U (sk wsP U j) [62] with
  | false =>
    rw [hh, if_neg (by simp)] at h
    exact absurd (inj3 h).1 (by show ¬ (23 : Int) = 0; decide)
  | true =>
    rw [hh, if_pos rfl] at h
    obtain ⟨_, _, g3⟩ := inj3 h
    obtain ⟨c, c1, c2⟩ := sk_here h3 (hereP_get hh) (by decide)
    have ha : U[i + 2 - 1]? = some 47 := by
      have := hereP_nth 1 h47 (by decide)
      simpa using this
    rw [← g3]
    exact ⟨nameAt_mk hU' hok h13 hi h1 c1 c2 (by omega) ha (by decide), rfl⟩
theorem closing_read {U : List UInt8} (hU : U.length ≤ 1073741824) {i : Nat} {nm R : List UInt8} (h : U.drop i = 60 :: 47 :: (nm ++ 62 :: R)) (hN : NameAt nm) :
    F_scan_scanner_closing ⟨U, (i : Int)⟩ (tok0 i) = some (0, ⟨U, ((i + 2 + nm.length + 1 : Nat) : Int)⟩, ⟨3, (i : Int), nm, [], [], 0⟩) := by
  have h2 := drop_go1 (drop_go1 h)
  have h3 := drop_go h2
  have hlt := drop_lt h3
  have hn := nameAt_read hN hU h2 (by decide) (stop_of (by decide))
  have hs : sk wsP U (i + 1 + 1 + nm.length) = i + 1 + 1 + nm.length := sk_pass [] (b := U) (c := 62) h3 (by simp) (by decide)
  unfold F_scan_scanner_closing
  dsimp only
  rw [w64 (x := (i : Int) + 2) (by omega) (by omega), show (i : Int) + 2 = ((i + 1 + 1 : Nat) : Int) by omega, hn, Option.bind_some]
  dsimp only
  rw [show ((0 : Int) != 0) = false from rfl, cond_false, spaces_eq U _ _ (by omega) hU, Option.bind_some, hs, sign_eq U _ _ (by omega) hU, if_pos (by rw [hereP_one, drop_get h3]; simp), Option.bind_some]
  rfl
theorem instr_good {U : List UInt8} (hU' : U.length ≤ 65536) (hok : OkT U) (h13 : (13 : UInt8) ∉ U) {i f : Nat} {t t' : Tk} (hi : i + 2 ≤ U.length) (h63 : hereP U i [60, 63] = true) (ht : t.Text = []) (h : F_scan_scanner_instr ⟨U, (i : Int)⟩ t = some (0, ⟨U, (f : Int)⟩, t')) :
    NameAt t'.Name ∧ nameP t'.Name = true ∧ F_strings_EqualFold t'.Name [120, 109, 108] = some false ∧ t' = ⟨8, t.At, t'.Name, t.Pairs, t'.Text, t.Refs⟩ ∧ (t'.Text = [] ∨ (First t'.Text [63, 62] ∧ OkT t'.Text ∧ (13 : UInt8) ∉ t'.Text ∧ ∀ c x, t'.Text = c :: x → wsP c = false)) := by
  have hU : U.length ≤ 1073741824 := by omega
  unfold F_scan_scanner_instr at h
  dsimp only at h
  rw [w64 (x := (i : Int) + 2) (by omega) (by omega), show (i : Int) + 2 = ((i + 2 : Nat) : Int) by omega] at h
  obtain ⟨v, e, j, h1, h2, h3, h4, h5⟩ := name_sp U (i + 2) hi hU
  rw [h1, Option.bind_some] at h
  dsimp only at h
  by_cases he : e = 0
  case neg =>
    rw [show (e != 0) = true by simpa using he, cond_true] at h
    exact absurd (inj3 h).1 he
  subst he
  have ha : U[i + 2 - 1]? = some 63 := by
    have := hereP_nth 1 h63 (by decide)
    simpa using this
  rw [show ((0 : Int) != 0) = false from rfl, cond_false, F_nameC, Option.bind_some] at h
  cases hnm : nameP v with
  | false => rw [hnm, Bool.not_false, cond_true] at h; exact absurd (inj3 h).1 (by decide)
  | true =>
  obtain ⟨r, hr⟩ := eqf_xml v (by omega)
  rw [hnm, Bool.not_true, cond_false, hr, Option.bind_some] at h
  cases r with
  | true => rw [cond_true] at h; exact absurd (inj3 h).1 (by decide)
  | false =>
  rw [cond_false, here_eq U j _ h3, Option.bind_some] at h
  cases hh : hereP U j [63, 62] with
  | true =>
    rw [hh, cond_true, sign_eq U _ _ h3 hU, hh, if_pos rfl, Option.bind_some] at h
    obtain ⟨_, _, g3⟩ := inj3 h
    rw [← g3]
    exact ⟨nameAt_mk hU' hok h13 hi h1 (hereP_get hh) (by decide) (by omega) ha (by decide), hnm, hr, rfl, .inl ht⟩
  | false =>
    obtain ⟨s1, s2⟩ := sk_le wsP U j h3
    rw [hh, cond_false, spaces_eq U _ j h3 hU, Option.bind_some] at h
    by_cases hs : sk wsP U j = j
    · rw [show (((sk wsP U j : Nat) : Int) == (j : Int)) = true by simp [hs], cond_true] at h
      exact absurd (inj3 h).1 (by decide)
    rw [show (((sk wsP U j : Nat) : Int) == (j : Int)) = false by rw [beq_eq_false_iff_ne]; omega, cond_false] at h
    obtain ⟨d, d1, d2⟩ := sk_all (P := wsP) (s := U) (i := j) (k := j) 0 rfl (by omega)
    obtain ⟨a, a1, a2⟩ := sk_all (P := wsP) (s := U) (i := j) (k := sk wsP U j - 1) (sk wsP U j - 1 - j) (by omega) (by omega)
    obtain ⟨e2, k, x, u1, u2, u3⟩ := upTo_sp U (sk wsP U j) 0 ⟨8, t.At, v, t.Pairs, t.Text, t.Refs⟩ [63, 62] (by simp) (by omega) hU (by simp)
    rw [show (0 : Int) = ((0 : Nat) : Int) from rfl, u1, Option.bind_some] at h
    obtain ⟨g1, g2, g3⟩ := inj3 h
    subst g1
    obtain ⟨x', R, v1, v2, v3, v4⟩ := upTo_good hU (by simp) (by simp) (by omega) u1
    have hx : x = x' := by injection v4
    subst hx
    rw [Nat.add_zero] at v1
    rw [← g3]
    refine ⟨nameAt_mk hU' hok h13 hi h1 d1 (ws_lo d d2) (by omega) ha (by decide), hnm, hr, rfl, .inr ⟨v2, okT_seg hok (by omega) a1 (ws_lo a a2) (by decide : (63 : UInt8).toNat < 128) v1, seg13 h13 v1, fun c y hc => ?_⟩⟩
    have hc' : x = c :: y := hc
    rw [hc'] at v1
    have hlt := drop_lt v1
    have := sk_stop (P := wsP) (s := U) (U.length - j) j (by omega) hlt
    have hg := drop_get v1
    rw [List.getElem?_eq_getElem hlt] at hg
    rw [Option.some.inj hg] at this
    exact this
theorem instr_len {U : List UInt8} (hU : U.length ≤ 1073741824) {i f : Nat} {t t' : Tk} (hi : i + 2 ≤ U.length) (ht : t.Text = []) (h : F_scan_scanner_instr ⟨U, (i : Int)⟩ t = some (0, ⟨U, (f : Int)⟩, t')) : t'.Text.length ≤ U.length := by
  unfold F_scan_scanner_instr at h
  dsimp only at h
  rw [w64 (x := (i : Int) + 2) (by omega) (by omega), show (i : Int) + 2 = ((i + 2 : Nat) : Int) by omega] at h
  obtain ⟨v, e, j, h1, h2, h3, h4, h5⟩ := name_sp U (i + 2) hi hU
  rw [h1, Option.bind_some] at h
  dsimp only at h
  by_cases he : e = 0
  case neg =>
    rw [show (e != 0) = true by simpa using he, cond_true] at h
    exact absurd (inj3 h).1 he
  subst he
  rw [show ((0 : Int) != 0) = false from rfl, cond_false, F_nameC, Option.bind_some] at h
  cases hnm : nameP v with
  | false => rw [hnm, Bool.not_false, cond_true] at h; exact absurd (inj3 h).1 (by decide)
  | true =>
  obtain ⟨r, hr⟩ := eqf_xml v (by omega)
  rw [hnm, Bool.not_true, cond_false, hr, Option.bind_some] at h
  cases r with
  | true => rw [cond_true] at h; exact absurd (inj3 h).1 (by decide)
  | false =>
  rw [cond_false, here_eq U j _ h3, Option.bind_some] at h
  cases hh : hereP U j [63, 62] with
  | true =>
    rw [hh, cond_true, sign_eq U _ _ h3 hU, hh, if_pos rfl, Option.bind_some] at h
    obtain ⟨_, _, g3⟩ := inj3 h
    rw [← g3]
    show t.Text.length ≤ _
    rw [ht]; exact Nat.zero_le _
  | false =>
    obtain ⟨s1, s2⟩ := sk_le wsP U j h3
    rw [hh, cond_false, spaces_eq U _ j h3 hU, Option.bind_some] at h
    rcases cond_some h with h | h
    · exact absurd (inj3 h).1 (by decide)
    obtain ⟨e2, k, x, u1, u2, u3⟩ := upTo_sp U (sk wsP U j) 0 ⟨8, t.At, v, t.Pairs, t.Text, t.Refs⟩ [63, 62] (by simp) (by omega) hU (by simp)
    rw [show (0 : Int) = ((0 : Nat) : Int) from rfl, u1, Option.bind_some] at h
    obtain ⟨g1, g2, g3⟩ := inj3 h
    subst g1
    obtain ⟨x', R, v1, v2, v3, v4⟩ := upTo_good hU (by simp) (by simp) (by omega) u1
    have hx : x = x' := by injection v4
    subst hx
    have := congrArg List.length v1
    rw [List.length_drop, List.length_append] at this
    rw [← g3]
    show x.length ≤ _
    omega
theorem instr_read0 {U : List UInt8} (hU : U.length ≤ 1073741824) {i : Nat} {nm R : List UInt8} (h : U.drop i = 60 :: 63 :: (nm ++ 63 :: 62 :: R)) (hN : NameAt nm) (h1 : nameP nm = true) (h2 : F_strings_EqualFold nm [120, 109, 108] = some false) :
    F_scan_scanner_instr ⟨U, (i : Int)⟩ (tok0 i) = some (0, ⟨U, ((i + 1 + 1 + nm.length + 2 : Nat) : Int)⟩, ⟨8, (i : Int), nm, [], [], 0⟩) := by
  have d2 := drop_go1 (drop_go1 h)
  have d3 := drop_go d2
  have hlt := drop_lt d3
  have hn := nameAt_read hN hU d2 (by decide) (stop_of (by decide))
  have hh : hereP U (i + 1 + 1 + nm.length) [63, 62] = true := by unfold hereP; rw [d3]; rfl
  unfold F_scan_scanner_instr
  dsimp only
  rw [w64 (x := (i : Int) + 2) (by omega) (by omega), show (i : Int) + 2 = ((i + 1 + 1 : Nat) : Int) by omega, hn, Option.bind_some]
  dsimp only
  rw [show ((0 : Int) != 0) = false from rfl, cond_false, F_nameC, Option.bind_some, h1, Bool.not_true, cond_false, h2, Option.bind_some, cond_false, here_eq U _ _ (by omega), Option.bind_some, hh, cond_true, sign_eq U _ _ (by omega) hU, hh, if_pos rfl, Option.bind_some]
  rfl
theorem instr_read1 {U : List UInt8} (hU : U.length ≤ 1073741824) {i : Nat} {nm x R : List UInt8} (h : U.drop i = 60 :: 63 :: (nm ++ 32 :: (x ++ 63 :: 62 :: R))) (hN : NameAt nm) (h1 : nameP nm = true) (h2 : F_strings_EqualFold nm [120, 109, 108] = some false) (hf : First x [63, 62]) (hw : ∀ c y, x = c :: y → wsP c = false) :
    F_scan_scanner_instr ⟨U, (i : Int)⟩ (tok0 i) = some (0, ⟨U, ((i + 1 + 1 + nm.length + 1 + x.length + 2 : Nat) : Int)⟩, ⟨8, (i : Int), nm, [], x, 0⟩) := by
  have d2 := drop_go1 (drop_go1 h)
  have d3 := drop_go d2
  have d4 := drop_go1 d3
  have hlt := drop_lt d3
  have hn := nameAt_read hN hU d2 (by decide) (stop_ws 32 (.inl (by decide)))
  have hh : hereP U (i + 1 + 1 + nm.length) [63, 62] = false := here_cons d3 63 _ (by decide)
  have hs : sk wsP U (i + 1 + 1 + nm.length) = i + 1 + 1 + nm.length + 1 := by
    cases x with
    | nil => exact sk_pass [32] (b := U) (c := 63) (y := 62 :: R) d3 (by decide) (by decide)
    | cons c y => exact sk_pass [32] (b := U) (c := c) (y := y ++ 63 :: 62 :: R) d3 (by decide) (hw c y rfl)
  have hu := upTo_read (k := 0) (t := ⟨8, (i : Int), nm, [], [], 0⟩) hU (by simp) (by simp) (i := i + 1 + 1 + nm.length + 1) (x := x) (w := [63, 62]) (R := R) d4 hf
  unfold F_scan_scanner_instr
  dsimp only
  rw [w64 (x := (i : Int) + 2) (by omega) (by omega), show (i : Int) + 2 = ((i + 1 + 1 : Nat) : Int) by omega, hn, Option.bind_some]
  dsimp only
  rw [show ((0 : Int) != 0) = false from rfl, cond_false, F_nameC, Option.bind_some, h1, Bool.not_true, cond_false, h2, Option.bind_some, cond_false, here_eq U _ _ (by omega), Option.bind_some, hh, cond_false, spaces_eq U _ _ (by omega) hU, Option.bind_some, hs]
  rw [show (((i + 1 + 1 + nm.length + 1 : Nat) : Int) == ((i + 1 + 1 + nm.length : Nat) : Int)) = false by rw [beq_eq_false_iff_ne]; omega, cond_false]
  rw [show ((0 : Nat) : Int) = (0 : Int) from rfl] at hu
  rw [hu, Option.bind_some]
  rfl
end Go.Proofs.YtfokkdofcekdbaaDoor
set_option maxRecDepth 20000
namespace Go.Proofs.YtfokkdofcekdbaaDoor
open Go.Lib (decodeL decodeN)
theorem text_good {U : List UInt8} (hU' : U.length ≤ 65536) {i : Nat} (hi : i < U.length) (h60 : U[i]? ≠ some 60) {s : T_scan_scanner} {t : Tk} (h : F_scan_scanner_token ⟨U, (i : Int)⟩ (tok0 i) = some (0, s, t)) :
    t = ⟨5, (i : Int), [], [], t.Text, t.Refs⟩ ∧ OkT t.Text ∧ t.Text ≠ [] ∧ t.Text.length ≤ 262144 := by
  have hU : U.length ≤ 1073741824 := by omega
  obtain ⟨f, hf⟩ := text_ex hi h60
  rw [token_text (Nat.le_of_lt hi) hU h60, text_mk hU hf] at h
  unfold textR at h
  obtain ⟨x, x1, h⟩ := bind_some' h
  obtain ⟨y, y1, h⟩ := bind_some' h
  injection Option.some.inj h with g1 h
  injection h with g2 g3
  rw [← g3]
  unfold F_refer_ReadText at x1
  obtain ⟨r, r1, r2⟩ := bind_some' x1
  have r2 := Option.some.inj r2
  have hl : ((U.drop i).take (f - i)).length ≤ 65536 := by rw [List.length_take, List.length_drop]; omega
  have hne : (U.drop i).take (f - i) ≠ [] := fun hh => by
    have := congrArg List.length hh
    rw [List.length_take, List.length_drop, List.length_nil] at this
    have := hf.lt; omega
  have := read_both (by omega) (t := x.1) (n := x.2.1) (show F_refer_read ((U.drop i).take (f - i)) false = _ by rw [r1, ← g1, ← r2])
  exact ⟨rfl, this.1, this.2.1 hne, by have := this.2.2; show x.1.length ≤ _; omega⟩
theorem tx_facts : (∀ c, (60 : UInt8) ∉ txE c) ∧ (∀ c, (62 : UInt8) ∉ txE c) ∧ (∀ c, (13 : UInt8) ∉ txE c) ∧ (∀ c : UInt8, 128 ≤ c.toNat → txE c = [c]) ∧ (∀ c, 1 ≤ (txE c).length ∧ (txE c).length ≤ 8) ∧ ∀ c : UInt8, charP (c.toNat : Int) = true → c.toNat < 128 → OkT (txE c) := by
  have h : ∀ c : UInt8, (decide ((60 : UInt8) ∉ txE c) && (decide ((62 : UInt8) ∉ txE c) && (decide ((13 : UInt8) ∉ txE c) && (decide (128 ≤ c.toNat → txE c = [c]) && (decide (1 ≤ (txE c).length ∧ (txE c).length ≤ 8) && ((txE c).all fun d => decide (c.toNat < 128 ∧ charP (c.toNat : Int) = true → d.toNat < 128 ∧ charP (d.toNat : Int) = true))))))) = true := all_u8 (by decide +kernel)
  have g := fun c => h c
  simp only [Bool.and_eq_true, decide_eq_true_eq, List.all_eq_true] at g
  exact ⟨fun c => (g c).1, fun c => (g c).2.1, fun c => (g c).2.2.1, fun c => (g c).2.2.2.1, fun c => (g c).2.2.2.2.1, fun c hc h1 => okT_asc _ fun d hd => (g c).2.2.2.2.2 d hd ⟨h1, hc⟩⟩
theorem flat_ge {E : UInt8 → List UInt8} (h : ∀ c, 1 ≤ (E c).length) : ∀ v : List UInt8, v.length ≤ (v.flatMap E).length
  | [] => by simp
  | c :: v => by
    have := h c
    have := flat_ge h v
    rw [List.flatMap_cons, List.length_append, List.length_cons]; omega
theorem text_read {U : List UInt8} (hU : U.length ≤ 65536) {i : Nat} {x R : List UInt8} (h : U.drop i = x.flatMap txE ++ R) (hx : OkT x) (hne : x ≠ []) (hR : R = [] ∨ R[0]? = some 60) :
    ∃ n, F_scan_scanner_token ⟨U, (i : Int)⟩ (tok0 i) = some (0, ⟨U, ((i + (x.flatMap txE).length : Nat) : Int)⟩, ⟨5, (i : Int), [], [], x, n⟩) := by
  obtain ⟨t1, t2, t3, t4, t5, t6⟩ := tx_facts
  have hUb : U.length ≤ 1073741824 := by omega
  have hge := flat_ge (fun c => (t5 c).1) x
  have hpos : 0 < x.length := List.length_pos_iff.2 hne
  have hl := congrArg List.length h
  rw [List.length_drop, List.length_append] at hl
  have hat : TxtAt U i (i + (x.flatMap txE).length) := by
    refine ⟨by omega, by omega, fun k k1 k2 hk => ?_, ?_⟩
    · have : (U.drop i)[k - i]? = some 60 := by rw [List.getElem?_drop, show i + (k - i) = k by omega]; exact hk
      rw [h, List.getElem?_append_left (by omega)] at this
      exact not_mem_flat t1 x (List.mem_of_getElem? this)
    · rcases hR with rfl | hR
      · left; rw [List.length_nil] at hl; omega
      · right
        have : (U.drop i)[(x.flatMap txE).length]? = some 60 := by rw [h, List.getElem?_append_right (Nat.le_refl _), Nat.sub_self]; exact hR
        rwa [List.getElem?_drop] at this
  have h60 : U[i]? ≠ some 60 := hat.no i (Nat.le_refl _) hat.lt
  refine ⟨((Lib.countByte (x.flatMap txE) 38 : Nat) : Int), ?_⟩
  rw [token_text (by omega) hUb h60, text_mk hUb hat]
  unfold textR
  rw [Nat.add_sub_cancel_left, h, List.take_left]
  unfold F_refer_ReadText
  rw [read_back esc_tx hx (by omega) (by omega) (fun _ => not_mem_flat t2 x), Option.bind_some, Option.bind_some]
  rfl
def plB (b : UInt8) : Bool := ([65, 66, 67, 68, 69, 70, 71, 72, 73, 74, 75, 76, 77, 78, 79, 80, 81, 82, 83, 84, 85, 86, 87, 88, 89, 90, 97, 98, 99, 100, 101, 102, 103, 104, 105, 106, 107, 108, 109, 110, 111, 112, 113, 114, 115, 116, 117, 118, 119, 120, 121, 122, 48, 49, 50, 51, 52, 53, 54, 55, 56, 57, 46, 95, 45] : List UInt8).contains b
theorem plB_facts (b : UInt8) (h : plB b = true) : quE b = [b] ∧ apE b = [b] ∧ b ≠ 34 ∧ b ≠ 39 ∧ b ≠ 13 ∧ b.toNat < 128 ∧ charP (b.toNat : Int) = true := by
  have hh : ∀ b : UInt8, (!plB b || decide (quE b = [b] ∧ apE b = [b] ∧ b ≠ 34 ∧ b ≠ 39 ∧ b ≠ 13 ∧ b.toNat < 128 ∧ charP (b.toNat : Int) = true)) = true := all_u8 (by decide +kernel)
  have := hh b
  rw [h, Bool.not_true, Bool.false_or] at this
  exact of_decide_eq_true this
theorem fits_plain {w v : List UInt8} (hv : v.length ≤ 1073741824) (h : F_scan_fits w v = some true) : ∀ b ∈ v, plB b = true := by
  unfold F_scan_fits at h
  by_cases c1 : w = [118, 101, 114, 115, 105, 111, 110]
  · rw [show (w == ([118, 101, 114, 115, 105, 111, 110] : List UInt8)) = true by rw [c1]; rfl, cond_true, cutPrefix_eq, Option.bind_some] at h
    simp only [letJ] at h
    by_cases hp : ([49, 46] : List UInt8).isPrefixOf v = true
    · rw [if_pos hp] at h
      dsimp only at h
      have hvl : (v.drop ([49, 46] : List UInt8).length).length ≤ 1073741824 := by rw [List.length_drop]; omega
      have ht : L_Trim (v.drop ([49, 46] : List UInt8).length) [48, 49, 50, 51, 52, 53, 54, 55, 56, 57] = some (Lib.trimS (v.drop ([49, 46] : List UInt8).length) [48, 49, 50, 51, 52, 53, 54, 55, 56, 57]) := by
        unfold L_Trim; rw [if_pos ⟨by omega, by decide, by decide⟩]
      rw [ht] at h
      rcases cond_some h with h | h
      · rw [Option.bind_some] at h
        have h2 := trimS_nil (eq_of_beq (Option.some.inj h))
        rw [List.isPrefixOf_iff_prefix] at hp
        obtain ⟨z, hz⟩ := hp
        intro b hb
        rw [← hz] at hb h2
        rcases List.mem_append.1 hb with hb | hb
        · have : ∀ b ∈ ([49, 46] : List UInt8), plB b = true := by decide
          exact this b hb
        · have h3 := h2 b (by simpa using hb)
          have h4 := all_u8 (p := fun c => !(([48, 49, 50, 51, 52, 53, 54, 55, 56, 57] : List UInt8).contains c) || plB c) (by decide +kernel) b
          rw [h3] at h4
          simpa using h4
      · cases h
    · rw [if_neg hp] at h
      simp at h
  · rw [show (w == ([118, 101, 114, 115, 105, 111, 110] : List UInt8)) = false by simpa using c1, cond_false] at h
    by_cases c2 : w = [101, 110, 99, 111, 100, 105, 110, 103]
    · rw [show (w == ([101, 110, 99, 111, 100, 105, 110, 103] : List UInt8)) = true by rw [c2]; rfl, cond_true] at h
      simp only [letJ] at h
      by_cases c3 : v = []
      · subst c3; intro b hb; cases hb
      · have hpos : 0 < v.length := List.length_pos_iff.2 c3
        rw [show (v == ([] : List UInt8)) = false by simpa using c3, Bool.not_false, cond_true, show (0 : Int) = ((0 : Nat) : Int) from rfl, idx_some hpos, Option.bind_some] at h
        unfold L_IndexByte at h
        rw [nat_u8, Option.bind_some] at h
        rcases cond_some h with h | h
        · unfold L_Trim at h
          rw [if_pos ⟨by omega, by decide, by decide⟩, Option.bind_some] at h
          intro b hb
          exact trimS_nil (eq_of_beq (Option.some.inj h)) b hb
        · cases h
    · rw [show (w == ([101, 110, 99, 111, 100, 105, 110, 103] : List UInt8)) = false by simpa using c2, cond_false] at h
      have h := Option.some.inj h
      rw [Bool.or_eq_true] at h
      rcases h with h | h
      · rw [eq_of_beq h]; decide
      · rw [eq_of_beq h]; decide
inductive DOk : Nat → List T_scan_Pair → List UInt8 → List UInt8 → Prop
  | done {la} : DOk 3 [] la la
  | skip {k : Nat} {ps la la'} : k < 3 → 0 < k → DOk (k + 1) ps la la' → DOk k ps la la'
  | take {k : Nat} {w v ps la la'} : k < 3 → idx DeclW (k : Int) = some w → F_scan_fits w v = some true → v.length ≤ 65536 → DOk (k + 1) ps (if w = [101, 110, 99, 111, 100, 105, 110, 103] then v else la) la' → DOk k (⟨w, v⟩ :: ps) la la'
theorem declW_0 {k : Nat} {w : List UInt8} (h : idx DeclW (k : Int) = some w) (hw : w ≠ [118, 101, 114, 115, 105, 111, 110]) : 0 < k := by
  rcases Nat.eq_zero_or_pos k with rfl | h'
  · have : idx DeclW ((0 : Nat) : Int) = some [118, 101, 114, 115, 105, 111, 110] := rfl
    rw [this] at h
    exact absurd (Option.some.inj h).symm hw
  · exact h'
theorem decl_l0_good {U : List UInt8} (hU : U.length ≤ 65536) (At : Int) (Nm Tx : List UInt8) (rf : Int) (jl : Nat) (la' : List UInt8) (ps' : List T_scan_Pair) :
    ∀ (m j k : Nat) (ps : List T_scan_Pair) (la : List UInt8), j ≤ U.length → k ≤ 3 → ps.length ≤ k → iter F_scan_scanner_decl_l0 m (U, (j : Int), (1 : Int), At, Nm, ps, Tx, rf, la, (k : Int)) = some (.inl (U, (jl : Int), la', (1 : Int), At, Nm, ps', Tx, rf)) →
      ∃ rest, ps' = ps ++ rest ∧ DOk k rest la la'
  | 0, j, k, ps, la, _, _, _, h => by cases h
  | m + 1, j, k, ps, la, g2, g3, g5, h => by
    have hUb : U.length ≤ 1073741824 := by omega
    rw [show iter F_scan_scanner_decl_l0 (m + 1) (U, (j : Int), (1 : Int), At, Nm, ps, Tx, rf, la, (k : Int)) = F_scan_scanner_decl_l0 (iter F_scan_scanner_decl_l0 m) (U, (j : Int), (1 : Int), At, Nm, ps, Tx, rf, la, (k : Int)) from rfl] at h
    generalize hI : iter F_scan_scanner_decl_l0 m = I at h
    by_cases hk : k < 3
    case neg =>
      have hkf : decide ((k : Int) < (DeclW.length : Int)) = false := decide_eq_false (show ¬ (k : Int) < ((3 : Nat) : Int) by omega)
      unfold F_scan_scanner_decl_l0 at h
      dsimp only at h
      rw [hkf, cond_false] at h
      have h' := Sum.inl.inj (Option.some.inj h)
      have q2 : la = la' := congrArg (fun x => x.2.2.1) h'
      have q3 : ps = ps' := congrArg (fun x => x.2.2.2.2.2.2.1) h'
      have : k = 3 := by omega
      subst this q2 q3
      exact ⟨[], by rw [List.append_nil], .done⟩
    have hkt : decide ((k : Int) < (DeclW.length : Int)) = true := decide_eq_true (show (k : Int) < ((3 : Nat) : Int) by omega)
    have hk1 : IntKind.wrap .i64 ((k : Int) + 1) = ((k + 1 : Nat) : Int) := by rw [w64 (by omega) (by omega)]; omega
    obtain ⟨w, c, hidx, w1, w2, wc, wh, wn⟩ := declW_hd k hk
    obtain ⟨s1, s2⟩ := sk_le wsP U j g2
    unfold F_scan_scanner_decl_l0 at h
    dsimp only at h
    rw [hkt, cond_true] at h
    simp only [letJ] at h
    rw [hidx, Option.bind_some] at h
    rw [spaces_eq U _ j g2 hUb, Option.bind_some] at h
    have skip : cond (w == ([118, 101, 114, 115, 105, 111, 110] : List UInt8))
         (some (.inr ((23 : Int), (⟨U, (j : Int)⟩ : T_scan_scanner), (⟨1, At, Nm, ps, Tx, rf⟩ : T_scan_Token))))
         (I (U, (j : Int), (1 : Int), At, Nm, ps, Tx, rf, la, IntKind.wrap .i64 ((k : Int) + 1))) = some (.inl (U, (jl : Int), la', (1 : Int), At, Nm, ps', Tx, rf)) →
        ∃ rest, ps' = ps ++ rest ∧ DOk k rest la la' := by
      intro hh
      cases hv : w == ([118, 101, 114, 115, 105, 111, 110] : List UInt8) with
      | true => rw [hv, cond_true] at hh; cases hh
      | false =>
        rw [hv, cond_false, hk1, ← hI] at hh
        obtain ⟨rest, p1, p2⟩ := decl_l0_good hU At Nm Tx rf jl la' ps' m j (k + 1) ps la g2 (by omega) (by omega) hh
        exact ⟨rest, p1, .skip hk (declW_0 hidx (by simpa using hv)) p2⟩
    by_cases c3 : sk wsP U j = j
    · have c3' : (((sk wsP U j : Nat) : Int) == (j : Int)) = true := by simp [c3]
      rw [c3', cond_true, cond_true] at h
      exact skip h
    have c3' : (((sk wsP U j : Nat) : Int) == (j : Int)) = false := by rw [beq_eq_false_iff_ne]; omega
    rw [c3', cond_false, slc_drop s2, Option.bind_some, hasPrefix_eq, Option.bind_some] at h
    cases hh : hereP U (sk wsP U j) w with
    | false =>
      have hh' : w.isPrefixOf (U.drop (sk wsP U j)) = false := hh
      rw [hh', Bool.not_false, cond_true] at h
      exact skip h
    | true =>
      have hh' : w.isPrefixOf (U.drop (sk wsP U j)) = true := hh
      have hl := hereP_len hh s2
      have hadd : IntKind.wrap .i64 (((sk wsP U j : Nat) : Int) + (w.length : Int)) = ((sk wsP U j + w.length : Nat) : Int) := by rw [w64 (by omega) (by omega)]; omega
      obtain ⟨e2, k2, q1, q2, q3⟩ := equals_sp U (sk wsP U j + w.length) hl hUb
      rw [hh', Bool.not_true, cond_false, hadd, q1, Option.bind_some] at h
      dsimp only at h
      by_cases ce2 : e2 = 0
      case neg => rw [show (e2 != 0) = true by simpa using ce2, cond_true] at h; cases h
      subst ce2
      obtain ⟨rv, e3, k3, u1, u2, u3, u4, u5⟩ := quoted_sp U k2 q3 hUb
      rw [show ((0 : Int) != 0) = false from rfl, cond_false, u1, Option.bind_some] at h
      dsimp only at h
      by_cases ce3 : e3 = 0
      case neg => rw [show (e3 != 0) = true by simpa using ce3, cond_true, cond_true] at h; cases h
      subst ce3
      obtain ⟨r, hr, _⟩ := fits_sp w rv (by omega)
      rw [show ((0 : Int) != 0) = false from rfl, cond_false, hr, Option.bind_some] at h
      cases r with
      | false => rw [Bool.not_false, cond_true] at h; cases h
      | true =>
      rw [Bool.not_true, cond_false, app_some (by simp; omega) (by simp; omega), Option.bind_some, Option.bind_some, hk1] at h
      have go : ∀ la2, I (U, (k3 : Int), (1 : Int), At, Nm, ps ++ [(⟨w, rv⟩ : T_scan_Pair)], Tx, rf, la2, ((k + 1 : Nat) : Int)) = some (.inl (U, (jl : Int), la', (1 : Int), At, Nm, ps', Tx, rf)) → (la2 = if w = [101, 110, 99, 111, 100, 105, 110, 103] then rv else la) →
          ∃ rest, ps' = ps ++ rest ∧ DOk k rest la la' := by
        intro la2 hg hla
        rw [← hI] at hg
        obtain ⟨rest, p1, p3⟩ := decl_l0_good hU At Nm Tx rf jl la' ps' m k3 (k + 1) _ la2 u3 (by omega) (by simp; omega) hg
        exact ⟨⟨w, rv⟩ :: rest, by rw [p1]; simp, .take hk hidx hr (by omega) (hla ▸ p3)⟩
      cases he : w == ([101, 110, 99, 111, 100, 105, 110, 103] : List UInt8) with
      | true =>
        rw [he, cond_true] at h
        exact go rv h (by rw [if_pos (eq_of_beq he)])
      | false =>
        rw [he, cond_false] at h
        exact go la h (by rw [if_neg (by simpa using he)])
theorem plain_flat {E : UInt8 → List UInt8} {v : List UInt8} (hE : ∀ b, plB b = true → E b = [b]) : (∀ b ∈ v, plB b = true) → v.flatMap E = v := by
  induction v with
  | nil => intro _; rfl
  | cons b v ih => intro h; rw [List.flatMap_cons, hE b (h b List.mem_cons_self), ih (fun d hd => h d (List.mem_cons_of_mem _ hd))]; rfl
structure QP (q : UInt8) (E : UInt8 → List UInt8) : Prop where
  w : QW q E
  pl : ∀ b, plB b = true → E b = [b]
theorem qp_qu : QP 34 quE := ⟨qw_qu, fun b h => (plB_facts b h).1⟩
theorem qp_ap : QP 39 apE := ⟨qw_ap, fun b h => (plB_facts b h).2.1⟩
theorem dok_head {k : Nat} {ps : List T_scan_Pair} {la la' : List UInt8} (h : DOk k ps la la') : ps = [] ∨ ∃ w v ps' c, ps = ⟨w, v⟩ :: ps' ∧ w[0]? = some c ∧ HdP k c := by
  induction h with
  | done => exact .inl rfl
  | skip h1 h2 h3 ih =>
    rcases ih with ih | ⟨w, v, ps', c, e1, e2, e3⟩
    · exact .inl ih
    · exact .inr ⟨w, v, ps', c, e1, e2, hdP_up e3⟩
  | @take k w v ps la la' h1 h2 h3 h4 h5 ih =>
    obtain ⟨w', c, hidx, _, _, wc, wh, _⟩ := declW_hd k h1
    rw [hidx] at h2
    have := Option.some.inj h2
    subst this
    exact .inr ⟨_, v, ps, c, rfl, wc, wh⟩
theorem decl_read {q : UInt8} {E : UInt8 → List UInt8} (P : QP q E) {U : List UInt8} (hU : U.length ≤ 65536) (At : Int) (Nm Tx : List UInt8) (rf : Int) (R : List UInt8) {k : Nat} {rest : List T_scan_Pair} {la la' : List UInt8} (h : DOk k rest la la') :
    ∀ (m j : Nat) (ps : List T_scan_Pair), U.drop j = shP q E rest ++ 63 :: 62 :: R → ps.length ≤ k → 3 < m + k → iter F_scan_scanner_decl_l0 m (U, (j : Int), (1 : Int), At, Nm, ps, Tx, rf, la, (k : Int)) = some (.inl (U, ((j + (shP q E rest).length : Nat) : Int), la', (1 : Int), At, Nm, ps ++ rest, Tx, rf)) := by
  have hUb : U.length ≤ 1073741824 := by omega
  induction h with
  | @done la =>
    intro m j ps h hp hm
    obtain ⟨m, rfl⟩ : ∃ k, m = k + 1 := ⟨m - 1, by omega⟩
    rw [iter_succ]
    unfold F_scan_scanner_decl_l0
    dsimp only
    rw [show decide (((3 : Nat) : Int) < (DeclW.length : Int)) = false from rfl, cond_false, List.append_nil]
    rfl
  | @skip k rest la la' hk h0 hd ih =>
    intro m j ps h hp hm
    obtain ⟨m, rfl⟩ : ∃ k, m = k + 1 := ⟨m - 1, by omega⟩
    rw [iter_succ]
    have ihm := ih m j ps h (by omega) (by omega)
    generalize iter F_scan_scanner_decl_l0 m = I at ihm ⊢
    have hkt : decide ((k : Int) < (DeclW.length : Int)) = true := decide_eq_true (show (k : Int) < ((3 : Nat) : Int) by omega)
    have hk1 : IntKind.wrap .i64 ((k : Int) + 1) = ((k + 1 : Nat) : Int) := by rw [w64 (by omega) (by omega)]; omega
    obtain ⟨w, c, hidx, w1, w2, wc, wh, wn⟩ := declW_hd k hk
    have hj : j ≤ U.length := by
      have := congrArg List.length h
      rw [List.length_drop, List.length_append, List.length_cons] at this; omega
    obtain ⟨s1, s2⟩ := sk_le wsP U j hj
    have hv : (w == ([118, 101, 114, 115, 105, 111, 110] : List UInt8)) = false := by
      rw [beq_eq_false_iff_ne]
      rintro rfl
      have : c = 118 := by simpa using wc.symm
      subst this
      rcases wh with wh | ⟨h1, _⟩ | ⟨_, wh⟩ | ⟨_, wh⟩
      · exact absurd wh (by decide)
      · omega
      · exact absurd wh (by decide)
      · exact absurd wh (by decide)
    unfold F_scan_scanner_decl_l0
    dsimp only
    rw [hkt, cond_true]
    simp only [letJ]
    rw [hidx, Option.bind_some, spaces_eq U _ j hj hUb, Option.bind_some, hv, cond_false, hk1]
    by_cases c3 : sk wsP U j = j
    · rw [show (((sk wsP U j : Nat) : Int) == (j : Int)) = true by simp [c3], cond_true, cond_true]
      exact ihm
    rw [show (((sk wsP U j : Nat) : Int) == (j : Int)) = false by rw [beq_eq_false_iff_ne]; omega, cond_false, slc_drop s2, Option.bind_some, hasPrefix_eq, Option.bind_some]
    have hh : hereP U (sk wsP U j) w = false := by
      rcases dok_head hd with rfl | ⟨w', v', ps', c', rfl, e2, e3⟩
      · have hs : sk wsP U j = j := sk_pass [] (b := U) (c := 63) (y := 62 :: R) h (by simp) (by decide)
        exact absurd hs c3
      · cases w' with
        | nil => cases e2
        | cons d w' =>
          have hdc : d = c' := by simpa using e2
          subst hdc
          have hwd : wsP d = false := by
            rcases e3 with rfl | ⟨_, rfl⟩ | ⟨_, rfl⟩ | ⟨_, rfl⟩ <;> decide
          rw [shP_cons] at h
          have hs : sk wsP U j = j + 1 := sk_pass [32] (b := U) (c := d) h (by decide) hwd
          have h1 : U.drop (j + 1) = d :: _ := drop_go1 h
          rw [hs]
          rw [Bool.eq_false_iff]; intro hc
          have hg := hereP_nth 0 hc (by omega)
          rw [Nat.add_zero, wc, drop_get h1] at hg
          have : d = c := Option.some.inj hg
          subst this
          exact wn e3
    rw [show w.isPrefixOf (U.drop (sk wsP U j)) = false from hh, Bool.not_false, cond_true]
    exact ihm
  | @take k w v rest la la' hk hi hf hvl hd ih =>
    intro m j ps h hp hm
    obtain ⟨m, rfl⟩ : ∃ k, m = k + 1 := ⟨m - 1, by omega⟩
    have hpl := fits_plain (by omega) hf
    have hfl : v.flatMap E = v := plain_flat P.pl hpl
    rw [shP_cons] at h
    dsimp only at h
    rw [hfl] at h
    have hkt : decide ((k : Int) < (DeclW.length : Int)) = true := decide_eq_true (show (k : Int) < ((3 : Nat) : Int) by omega)
    have hk1 : IntKind.wrap .i64 ((k : Int) + 1) = ((k + 1 : Nat) : Int) := by rw [w64 (by omega) (by omega)]; omega
    obtain ⟨w', c, hidx, w1, w2, wc, wh, wn⟩ := declW_hd k hk
    rw [hidx] at hi
    have hww := Option.some.inj hi
    subst hww
    have hj : j < U.length := drop_lt h
    have hwc : wsP c = false := by
      rcases wh with rfl | ⟨_, rfl⟩ | ⟨_, rfl⟩ | ⟨_, rfl⟩ <;> decide
    obtain ⟨wt, hwt⟩ : ∃ wt, w' = c :: wt := by
      cases w' with
      | nil => cases wc
      | cons d wt => exact ⟨wt, by have : d = c := by simpa using wc
                                   rw [this]⟩
    have h0 : U.drop j = [32] ++ c :: (wt ++ 61 :: q :: (v ++ q :: (shP q E rest ++ 63 :: 62 :: R))) := by rw [h, hwt]; simp
    have hs : sk wsP U j = j + 1 := sk_pass [32] h0 (by decide) hwc
    have h1 : U.drop (j + 1) = w' ++ (61 :: q :: (v ++ q :: (shP q E rest ++ 63 :: 62 :: R))) := by rw [drop_go1 h]; simp
    have h2 := drop_go h1
    have h3 := drop_go1 h2
    have l3 := drop_lt h3
    have wq : wsP q = false := by rcases P.w.hq with rfl | rfl <;> decide
    have hs2 : sk wsP U (j + 1 + w'.length) = j + 1 + w'.length := sk_pass [] (b := U) (c := 61) h2 (by simp) (by decide)
    have hs3 : sk wsP U (j + 1 + w'.length + 1) = j + 1 + w'.length + 1 := sk_pass [] (b := U) (c := q) h3 (by simp) wq
    have heq : F_scan_scanner_equals ⟨U, ((j + 1 + w'.length : Nat) : Int)⟩ = some (0, ⟨U, ((j + 1 + w'.length + 1 : Nat) : Int)⟩) := by
      rw [equals_eq U _ (by omega) hUb, hs2, if_pos (by rw [hereP_one, drop_get h2]; simp), hs3]
    have hqv : q ∉ v := fun hm => by
      have := plB_facts q (hpl q hm)
      rcases P.w.hq with rfl | rfl
      · exact this.2.2.1 rfl
      · exact this.2.2.2.1 rfl
    have hqu := quoted_at hUb P.w.hq h3 hqv
    have h5 := drop_go1 (drop_go (drop_go1 h3))
    have ihm := ih m (j + 1 + w'.length + 1 + (v.length + 2)) (ps ++ [⟨w', v⟩]) (by rw [← h5]; congr 1; omega) (by simp; omega) (by omega)
    rw [iter_succ]
    generalize iter F_scan_scanner_decl_l0 m = I at ihm ⊢
    unfold F_scan_scanner_decl_l0
    dsimp only
    rw [hkt, cond_true]
    simp only [letJ]
    rw [hidx, Option.bind_some, spaces_eq U _ j (by omega) hUb, Option.bind_some, hs, show (((j + 1 : Nat) : Int) == (j : Int)) = false by rw [beq_eq_false_iff_ne]; omega, cond_false, slc_drop (by omega), Option.bind_some, hasPrefix_eq, Option.bind_some]
    rw [show w'.isPrefixOf (U.drop (j + 1)) = true by rw [h1, List.isPrefixOf_iff_prefix]; exact ⟨_, rfl⟩, Bool.not_true, cond_false, show IntKind.wrap .i64 (((j + 1 : Nat) : Int) + (w'.length : Int)) = ((j + 1 + w'.length : Nat) : Int) by rw [w64 (by omega) (by omega)]; omega, heq, Option.bind_some]
    dsimp only
    rw [show ((0 : Int) != 0) = false from rfl, cond_false, hqu, Option.bind_some]
    dsimp only
    rw [show ((0 : Int) != 0) = false from rfl, cond_false, hf, Option.bind_some, Bool.not_true, cond_false, app_some (by simp; omega) (by simp; omega), Option.bind_some, Option.bind_some, hk1]
    have hres : ∀ la2, (la2 = if w' = [101, 110, 99, 111, 100, 105, 110, 103] then v else la) → I (U, ((j + 1 + w'.length + 1 + (v.length + 2) : Nat) : Int), (1 : Int), At, Nm, ps ++ [(⟨w', v⟩ : T_scan_Pair)], Tx, rf, la2, ((k + 1 : Nat) : Int)) = some (.inl (U, ((j + (shP q E (⟨w', v⟩ :: rest)).length : Nat) : Int), la', (1 : Int), At, Nm, ps ++ ⟨w', v⟩ :: rest, Tx, rf)) := by
      intro la2 hla
      rw [hla, ihm, List.append_assoc]
      rw [shP_cons]
      dsimp only
      rw [hfl]
      simp only [List.length_cons, List.length_append, List.singleton_append]
      congr 4
      omega
    cases he : w' == ([101, 110, 99, 111, 100, 105, 110, 103] : List UInt8) with
    | true => rw [cond_true]; exact hres _ (by rw [if_pos (eq_of_beq he)])
    | false => rw [cond_false]; exact hres _ (by rw [if_neg (by simpa using he)])
end Go.Proofs.YtfokkdofcekdbaaDoor
set_option maxRecDepth 20000
namespace Go.Proofs.YtfokkdofcekdbaaDoor
open Go.Lib (decodeL decodeN)
abbrev utf8W : List UInt8 := [117, 116, 102, 45, 56]
theorem decl_good {U : List UInt8} (hU' : U.length ≤ 65536) (h5 : 5 ≤ U.length) {s : T_scan_scanner} {t : Tk} (h : F_scan_scanner_decl ⟨U, (0 : Int)⟩ (tok0 0) = some (0, s, t)) :
    t = ⟨1, 0, [], t.Pairs, [], 0⟩ ∧ ∃ la, DOk 0 t.Pairs [] la ∧ (la = [] ∨ F_strings_EqualFold la utf8W = some true) := by
  have hU : U.length ≤ 1073741824 := by omega
  unfold F_scan_scanner_decl at h
  simp only [letJ] at h
  obtain ⟨o, e1, e2⟩ := decl_l0 U 0 [] [] 0 h5 hU
  rw [e1, Option.bind_some] at h
  rcases e2 with ⟨j, ps, la, rfl, h1, h2, h3, h7, h4, h6⟩ | ⟨j, t'', rfl, h1⟩
  case inr => injection Option.some.inj h with h _; exact absurd h (by decide)
  obtain ⟨rest, r1, r2⟩ := decl_l0_good hU' 0 [] [] 0 j la ps FUEL 5 0 [] [] h5 (by omega) (Nat.le_refl _) e1
  rw [List.nil_append] at r1
  subst r1
  dsimp only at h
  obtain ⟨x, x1, h⟩ := bind_some' h
  obtain ⟨y, y1, h⟩ := bind_some' h
  cases hy : y.1 != (0 : Int) with
  | true =>
    rw [hy, cond_true] at h
    injection Option.some.inj h with h _
    rw [h] at hy; exact absurd hy (by decide)
  | false =>
  rw [hy, cond_false] at h
  cases hla : la == ([] : List UInt8) with
  | true =>
    rw [hla, Bool.not_true, cond_false, cond_false] at h
    injection Option.some.inj h with _ h
    injection h with _ h
    rw [← h]
    exact ⟨rfl, la, r2, .inl (eq_of_beq hla)⟩
  | false =>
    rw [hla, Bool.not_false, cond_true] at h
    obtain ⟨r, hr, h⟩ := bind_some' h
    cases r with
    | false => rw [Bool.not_false, cond_true] at h; injection Option.some.inj h with h _; exact absurd h (by decide)
    | true =>
      rw [Bool.not_true, cond_false] at h
      injection Option.some.inj h with _ h
      injection h with _ h
      rw [← h]
      exact ⟨rfl, la, r2, .inr hr⟩
theorem decl_again {q : UInt8} {E : UInt8 → List UInt8} (P : QP q E) {U : List UInt8} (hU : U.length ≤ 65536) {ps : List T_scan_Pair} {la R : List UInt8} (h : U = [60, 63, 120, 109, 108] ++ (shP q E ps ++ 63 :: 62 :: R)) (hd : DOk 0 ps [] la) (hl : la = [] ∨ F_strings_EqualFold la utf8W = some true) :
    F_scan_scanner_decl ⟨U, (0 : Int)⟩ (tok0 0) = some (0, ⟨U, ((5 + (shP q E ps).length + 2 : Nat) : Int)⟩, ⟨1, 0, [], ps, [], 0⟩) := by
  have hUb : U.length ≤ 1073741824 := by omega
  have h5 : U.drop 5 = shP q E ps ++ 63 :: 62 :: R := by rw [h]; rfl
  have hr := decl_read P hU 0 [] [] 0 R hd FUEL 5 [] h5 (Nat.le_refl _) (by unfold FUEL; omega)
  have h6 := drop_go h5
  have hlt := drop_lt h6
  have hs : sk wsP U (5 + (shP q E ps).length) = 5 + (shP q E ps).length := sk_pass [] (b := U) (c := 63) (y := 62 :: R) h6 (by simp) (by decide)
  unfold F_scan_scanner_decl
  simp only [letJ]
  rw [show ((0 : Nat) : Int) = (0 : Int) from rfl, show ((5 : Nat) : Int) = (5 : Int) from rfl] at hr
  rw [hr, Option.bind_some]
  dsimp only
  rw [spaces_eq U _ _ (by omega) hUb, Option.bind_some, hs, sign_eq U _ _ (by omega) hUb, if_pos (by unfold hereP; rw [h6]; rfl), Option.bind_some]
  dsimp only
  rw [show ((0 : Int) != 0) = false from rfl, cond_false]
  rcases hl with rfl | hl
  · rfl
  · cases hla : la == ([] : List UInt8) with
    | true => rfl
    | false => rw [Bool.not_false, cond_true, hl, Option.bind_some]; rfl
def Good (t : Tk) : Prop :=
  (t.Kind = 1 ∧ t.Name = [] ∧ t.Text = [] ∧ ∃ la, DOk 0 t.Pairs [] la ∧ (la = [] ∨ F_strings_EqualFold la utf8W = some true)) ∨
  ((t.Kind = 2 ∨ t.Kind = 4) ∧ NameAt t.Name ∧ PairsOk t.Pairs ∧ (nmP t.Pairs).Nodup ∧ t.Text = []) ∨
  (t.Kind = 3 ∧ NameAt t.Name ∧ t.Pairs = [] ∧ t.Text = []) ∨
  (t.Kind = 5 ∧ t.Name = [] ∧ t.Pairs = [] ∧ OkT t.Text ∧ t.Text ≠ [] ∧ t.Text.length ≤ 262144) ∨
  (t.Kind = 6 ∧ t.Name = [] ∧ t.Pairs = [] ∧ First t.Text [93, 93, 62] ∧ OkT t.Text ∧ (13 : UInt8) ∉ t.Text ∧ t.Text.length ≤ 65536) ∨
  (t.Kind = 7 ∧ t.Name = [] ∧ t.Pairs = [] ∧ First t.Text [45, 45] ∧ OkT t.Text ∧ (13 : UInt8) ∉ t.Text ∧ t.Text.length ≤ 65536) ∨
  (t.Kind = 8 ∧ NameAt t.Name ∧ t.Pairs = [] ∧ nameP t.Name = true ∧ F_strings_EqualFold t.Name [120, 109, 108] = some false ∧ t.Text.length ≤ 65536 ∧ (t.Text = [] ∨ (First t.Text [63, 62] ∧ OkT t.Text ∧ (13 : UInt8) ∉ t.Text ∧ ∀ c x, t.Text = c :: x → wsP c = false)))
theorem token_good {U : List UInt8} (hU : U.length ≤ 65536) (hok : OkT U) (h13 : (13 : UInt8) ∉ U) {i f : Nat} {t : Tk} (hi : i < U.length) (h : F_scan_scanner_token ⟨U, (i : Int)⟩ (tok0 i) = some (0, ⟨U, (f : Int)⟩, t)) (hT : TokOk U i t f) (hf : f ≤ U.length) : Good t ∧ (t.Kind = 1 → i = 0) ∧ (t.Kind = 5 → U[i]? ≠ some 60) ∧ (t.Kind ≠ 5 → U[i]? = some 60) := by
  have hUb : U.length ≤ 1073741824 := by omega
  refine ⟨?_, hT.dec, fun h => (hT.txt h).1, hT.oth⟩
  by_cases h60 : U[i]? = some 60
  case neg =>
    obtain ⟨g1, g2, g3, g4⟩ := text_good hU hi h60 h
    refine .inr (.inr (.inr (.inl ⟨?_, ?_, ?_, g2, g3, g4⟩))) <;> rw [g1]
  have he := token_eq U i (Nat.le_of_lt hi) hUb
  rw [he] at h
  cases hd : declP U i with
  | true =>
    rw [hd, cond_true] at h
    unfold declP at hd
    rw [Bool.and_eq_true, Bool.and_eq_true] at hd
    have h5 := hereP_len hd.2.1 (Nat.zero_le _)
    obtain ⟨g1, la, g2, g3⟩ := decl_good hU (by simpa using h5) h
    refine .inl ⟨?_, ?_, ?_, la, g2, g3⟩ <;> rw [g1]
  | false =>
  rw [hd, cond_false] at h
  unfold tokRest at h
  cases c1 : hereP U i [60, 33, 45, 45] with
  | true =>
    have hl := hereP_len c1 (Nat.le_of_lt hi)
    rw [c1, cond_true] at h
    obtain ⟨e2, k, x, u1, u2, u3⟩ := upTo_sp U i 4 (tokK 7 i) [45, 45] (by simp) (by simpa using hl) hUb (by simp)
    rw [show (4 : Int) = ((4 : Nat) : Int) from rfl, u1, Option.bind_some] at h
    dsimp only at h
    by_cases ce : e2 = 0
    case neg =>
      rw [show (e2 != 0) = true by simpa using ce, cond_true] at h
      injection Option.some.inj h with h _; exact absurd h ce
    subst ce
    obtain ⟨x', R, v1, v2, v3, v4⟩ := upTo_good hUb (by simp) (by simp) (by simpa using hl) u1
    have hx : x = x' := by injection v4
    subst hx
    rw [show ((0 : Int) != 0) = false from rfl, cond_false] at h
    obtain ⟨y, y1, h⟩ := bind_some' h
    injection Option.some.inj h with _ h
    injection h with _ h
    have ha : U[i + 4 - 1]? = some 45 := by
      have := hereP_nth 3 c1 (by decide)
      simpa using this
    have hlx : x.length ≤ 65536 := by
      have := congrArg List.length v1
      rw [List.length_drop, List.length_append] at this; omega
    rw [← h]
    exact .inr (.inr (.inr (.inr (.inr (.inl ⟨rfl, rfl, rfl, v2, okT_seg hok (by omega) ha (by decide) (by decide : (45 : UInt8).toNat < 128) v1, seg13 h13 v1, hlx⟩)))))
  | false =>
  rw [c1, cond_false] at h
  cases c3 : hereP U i [60, 33, 91, 67, 68, 65, 84, 65, 91] with
  | true =>
    have hl := hereP_len c3 (Nat.le_of_lt hi)
    rw [c3, cond_true, show (9 : Int) = ((9 : Nat) : Int) from rfl] at h
    obtain ⟨x, R, v1, v2, v3, v4⟩ := upTo_good hUb (by simp) (by simp) (by simpa using hl) h
    have ha : U[i + 9 - 1]? = some 91 := by
      have := hereP_nth 8 c3 (by decide)
      simpa using this
    have hlx : x.length ≤ 65536 := by
      have := congrArg List.length v1
      rw [List.length_drop, List.length_append] at this; omega
    rw [v4]
    exact .inr (.inr (.inr (.inr (.inl ⟨rfl, rfl, rfl, v2, okT_seg hok (by omega) ha (by decide) (by decide : (93 : UInt8).toNat < 128) v1, seg13 h13 v1, hlx⟩))))
  | false =>
  rw [c3, cond_false] at h
  cases c4 : hereP U i [60, 33, 68, 79, 67, 84, 89, 80, 69] with
  | true =>
    rw [c4, cond_true] at h
    injection Option.some.inj h with h _
    exact absurd h (by decide)
  | false =>
  rw [c4, cond_false] at h
  cases c5 : hereP U i [60, 33] with
  | true =>
    rw [c5, cond_true] at h
    injection Option.some.inj h with h _
    exact absurd h (by decide)
  | false =>
  rw [c5, cond_false] at h
  cases c6 : hereP U i [60, 63] with
  | true =>
    have hl := hereP_len c6 (Nat.le_of_lt hi)
    rw [c6, cond_true] at h
    obtain ⟨g1, g2, g3, g4, g5⟩ := instr_good hU hok h13 (by simpa using hl) c6 rfl h
    refine .inr (.inr (.inr (.inr (.inr (.inr ⟨by rw [g4], g1, by rw [g4], g2, g3, ?_, g5⟩)))))
    have hin := instr_len hUb (by simpa using hl) rfl h
    omega
  | false =>
  rw [c6, cond_false] at h
  cases c7 : hereP U i [60, 47] with
  | true =>
    have hl := hereP_len c7 (Nat.le_of_lt hi)
    rw [c7, cond_true] at h
    obtain ⟨g1, g2⟩ := closing_good hU hok h13 (by simpa using hl) c7 h
    refine .inr (.inr (.inl ⟨by rw [g2], g1, by rw [g2], by rw [g2]⟩))
  | false =>
  rw [c7, cond_false, show hereP U i [60] = true by rw [hereP_one, h60]; simp, cond_true] at h
  obtain ⟨g1, g2, g3⟩ := tag_good hU hok h13 (by omega) h60 rfl h
  refine .inr (.inl ⟨?_, g1, g2, hT.nd, ?_⟩)
  · rcases g3 with g3 | g3
    · left; rw [g3]
    · right; rw [g3]
  · rcases g3 with g3 | g3 <;> rw [g3]
def shw (q : UInt8) (E : UInt8 → List UInt8) (t : Tk) : List UInt8 :=
  if t.Kind = 1 then [60, 63, 120, 109, 108] ++ (shP q E t.Pairs ++ [63, 62])
  else if t.Kind = 2 then 60 :: (t.Name ++ (shP q E t.Pairs ++ [62]))
  else if t.Kind = 4 then 60 :: (t.Name ++ (shP q E t.Pairs ++ [47, 62]))
  else if t.Kind = 3 then 60 :: 47 :: (t.Name ++ [62])
  else if t.Kind = 5 then t.Text.flatMap txE
  else if t.Kind = 6 then [60, 33, 91, 67, 68, 65, 84, 65, 91] ++ (t.Text ++ [93, 93, 62])
  else if t.Kind = 7 then [60, 33, 45, 45] ++ (t.Text ++ [45, 45, 62])
  else if t.Text = [] then 60 :: 63 :: (t.Name ++ [63, 62])
  else 60 :: 63 :: (t.Name ++ 32 :: (t.Text ++ [63, 62]))
theorem here_pre {U r w : List UInt8} {i : Nat} (h : U.drop i = w ++ r) : hereP U i w = true := by
  unfold hereP; rw [h, List.isPrefixOf_iff_prefix]; exact ⟨r, rfl⟩
theorem here_no1 {U r : List UInt8} {i : Nat} {c d : UInt8} (h : U.drop i = c :: d :: r) (a e : UInt8) (w : List UInt8) (he : e ≠ d) : hereP U i (a :: e :: w) = false := by
  unfold hereP; rw [h]; simp [List.isPrefixOf, he]
theorem rest_tag {U r : List UInt8} {i : Nat} {d : UInt8} (h : U.drop i = 60 :: d :: r) (h1 : d ≠ 33) (h2 : d ≠ 63) (h3 : d ≠ 47) : declP U i = false ∧ tokRest U i = F_scan_scanner_tag ⟨U, (i : Int)⟩ (tok0 i) := by
  have no := fun e w (he : e ≠ d) => here_no1 h 60 e w he
  constructor
  · unfold declP
    by_cases h0 : i = 0
    · subst h0; rw [no 63 _ (Ne.symm h2), Bool.false_and, Bool.and_false]
    · rw [decide_eq_false h0, Bool.false_and]
  · unfold tokRest
    rw [no 33 _ (Ne.symm h1), cond_false, no 33 _ (Ne.symm h1), cond_false, no 33 _ (Ne.symm h1), cond_false, no 33 _ (Ne.symm h1), cond_false, no 63 _ (Ne.symm h2), cond_false, no 47 _ (Ne.symm h3), cond_false, here_pre (w := [60]) (r := d :: r) h, cond_true]
end Go.Proofs.YtfokkdofcekdbaaDoor
set_option maxRecDepth 20000
namespace Go.Proofs.YtfokkdofcekdbaaDoor
open Go.Lib (decodeL decodeN)
theorem decl_no {U r : List UInt8} {i : Nat} {d : UInt8} (h : U.drop i = 60 :: d :: r) (hd : d ≠ 63) : declP U i = false := by
  unfold declP
  by_cases h0 : i = 0
  · subst h0; rw [here_no1 h 60 63 _ (Ne.symm hd), Bool.false_and, Bool.and_false]
  · rw [decide_eq_false h0, Bool.false_and]
theorem eqf_self : F_strings_EqualFold [120, 109, 108] [120, 109, 108] = some true := by kernel_rfl
theorem instr_nodecl {U r nm : List UInt8} {i : Nat} {d : UInt8} (h : U.drop i = 60 :: 63 :: (nm ++ d :: r)) (hd : d = 63 ∨ d = 32) (h1 : nameP nm = true) (h2 : F_strings_EqualFold nm [120, 109, 108] = some false) : declP U i = false := by
  by_cases h0 : i = 0
  case neg => unfold declP; rw [decide_eq_false h0, Bool.false_and]
  subst h0
  rw [List.drop_zero] at h
  cases hh : hereP U 0 [60, 63, 120, 109, 108] with
  | false => unfold declP; rw [hh, Bool.false_and, Bool.and_false]
  | true =>
    have g2 := hereP_nth 2 hh (by decide)
    have g3 := hereP_nth 3 hh (by decide)
    have g4 := hereP_nth 4 hh (by decide)
    rw [h] at g2 g3 g4
    simp only [Nat.zero_add, List.getElem?_cons_succ, List.getElem?_cons_zero] at g2 g3 g4
    have hd' : d ≠ 120 ∧ d ≠ 109 ∧ d ≠ 108 := by rcases hd with rfl | rfl <;> decide
    rcases nm with _ | ⟨n0, _ | ⟨n1, _ | ⟨n2, nm⟩⟩⟩
    · simp only [List.nil_append, List.getElem?_cons_zero] at g2
      exact absurd (Option.some.inj g2) hd'.1
    · simp only [List.cons_append, List.nil_append, List.getElem?_cons_succ, List.getElem?_cons_zero] at g3
      exact absurd (Option.some.inj g3) hd'.2.1
    · simp only [List.cons_append, List.nil_append, List.getElem?_cons_succ, List.getElem?_cons_zero] at g4
      exact absurd (Option.some.inj g4) hd'.2.2
    · simp only [List.cons_append, List.getElem?_cons_succ, List.getElem?_cons_zero] at g2 g3 g4
      have e0 : n0 = 120 := Option.some.inj g2
      have e1 : n1 = 109 := Option.some.inj g3
      have e2 : n2 = 108 := Option.some.inj g4
      subst e0 e1 e2
      rcases nm with _ | ⟨n3, nm⟩
      · rw [eqf_self] at h2; cases h2
      · have h5 : U.drop 5 = n3 :: (nm ++ d :: r) := by rw [h]; rfl
        have hw : wsP n3 = false := by
          cases hw : wsP n3 with
          | false => rfl
          | true =>
            exfalso
            unfold nameP at h1
            rw [Bool.and_eq_true] at h1
            have hk := h1.2
            have hs := stop_ws n3 (.inl hw) 0 1
            unfold stopN at hs
            have hp : partP (n3.toNat : Int) = false := by
              simp only [show ((1 : Int) == 0) = false from rfl, Bool.false_and, Bool.or_false, Bool.and_eq_true, Bool.not_eq_true'] at hs
              exact hs.2
            have dd : ∀ (c : UInt8) (y : List UInt8), c.toNat < 128 → decodeL (c :: y) = (c.toNat, 1) := fun c y => dec_ascii c y
            rw [show (120 :: 109 :: 108 :: n3 :: nm).length = nm.length + 1 + 1 + 1 + 1 by simp] at hk
            have lo := ws_lo n3 hw
            simp only [okN, List.length_cons, List.drop_zero, List.drop_succ_cons, dd 120 _ (by decide), dd 109 _ (by decide), dd 108 _ (by decide), dd n3 _ lo, Nat.zero_add, hp, Bool.false_and, Bool.and_false] at hk
            simp at hk
        have hs : sk wsP U 5 = 5 := sk_pass [] (b := U) (c := n3) h5 (by simp) hw
        unfold declP
        rw [hs, decide_eq_false (Nat.lt_irrefl 5), Bool.and_false, Bool.and_false]
theorem token_again {q : UInt8} {E : UInt8 → List UInt8} (P : QP q E) {t : Tk} (G : Good t) {U R : List UInt8} {i : Nat} (hU : U.length ≤ 65536) (h : U.drop i = shw q E t ++ R) (h5 : t.Kind = 5 → R = [] ∨ R[0]? = some 60) (h1 : t.Kind = 1 → i = 0) :
    ∃ n, F_scan_scanner_token ⟨U, (i : Int)⟩ (tok0 i) = some (0, ⟨U, ((i + (shw q E t).length : Nat) : Int)⟩, ⟨t.Kind, (i : Int), t.Name, t.Pairs, t.Text, n⟩) := by
  have hUb : U.length ≤ 1073741824 := by omega
  obtain ⟨tK, tA, tN, tP, tT, tR⟩ := t
  dsimp only at h h5 h1
  rcases G with ⟨k, n, x, la, g1, g2⟩ | ⟨k, g1, g2, g3, x⟩ | ⟨k, g1, p, x⟩ | ⟨k, n, p, g1, g2, g3⟩ | ⟨k, n, p, g1, g2, g3, g4⟩ | ⟨k, n, p, g1, g2, g3, g4⟩ | ⟨k, g1, p, g2, g3, g4, g5⟩
  · dsimp only at k n x g1
    subst k n x
    have hi := h1 rfl
    subst hi
    have hsh : shw q E ⟨1, tA, [], tP, [], tR⟩ = [60, 63, 120, 109, 108] ++ (shP q E tP ++ [63, 62]) := rfl
    rw [hsh] at h ⊢
    have hU2 : U = [60, 63, 120, 109, 108] ++ (shP q E tP ++ 63 :: 62 :: R) := by rw [List.drop_zero] at h; rw [h]; simp
    have hd := decl_again P hU hU2 g1 g2
    have hpne : ∃ p ps, tP = p :: ps := by
      cases g1 with
      | skip _ h0 _ => exact absurd h0 (Nat.lt_irrefl 0)
      | take _ _ _ _ _ => exact ⟨_, _, rfl⟩
    obtain ⟨p, ps, rfl⟩ := hpne
    have h5' : U.drop 5 = 32 :: (p.Name ++ 61 :: q :: (p.Value.flatMap E ++ q :: shP q E ps) ++ 63 :: 62 :: R) := by rw [hU2, shP_cons]; rfl
    have hl5 := drop_lt h5'
    have hdecl : declP U 0 = true := by
      unfold declP
      rw [here_pre (U := U) (i := 0) (w := [60, 63, 120, 109, 108]) (by rw [List.drop_zero]; exact hU2), decide_eq_true rfl, Bool.true_and, Bool.true_and]
      refine decide_eq_true ?_
      have hg : U[5] = 32 := by
        have := drop_get h5'
        rw [List.getElem?_eq_getElem hl5] at this
        exact Option.some.inj this
      rw [sk_step hl5, hg, if_pos (by decide)]
      exact (sk_le wsP U 6 (by omega)).1
    refine ⟨0, ?_⟩
    rw [token_eq U 0 (Nat.zero_le _) hUb, hdecl, cond_true, hd]
    congr 3
    congr 1
    simp only [List.length_append, List.length_cons, List.length_nil]
    omega
  · dsimp only at k g1 g2 g3 x
    subst x
    obtain ⟨c0, x', hx, _⟩ := nameAt_head g1
    have hne : ∀ d : UInt8, d.toNat < 128 ∧ stopN 0 0 (d.toNat : Int) = true → c0 ≠ d := fun d hd => nameAt_ne g1 hx hd
    rcases k with k | k
    · subst k
      have hsh : shw q E ⟨2, tA, tN, tP, [], tR⟩ = 60 :: (tN ++ (shP q E tP ++ [62])) := rfl
      rw [hsh] at h ⊢
      have h' : U.drop i = 60 :: (tN ++ (shP q E tP ++ (if false then [47, 62] else [62]) ++ R)) := by rw [h]; simp
      have h'' : U.drop i = 60 :: c0 :: (x' ++ (shP q E tP ++ [62] ++ R)) := by rw [h, hx]; simp
      obtain ⟨r1, r2⟩ := rest_tag h'' (hne 33 (by decide)) (hne 63 (by decide)) (hne 47 (by decide))
      refine ⟨0, ?_⟩
      rw [token_eq U i (Nat.le_of_lt (drop_lt h'')) hUb, r1, cond_false, r2, tag_read P.w hU false h' g1 g2 g3]
      simp only [Bool.false_eq_true, if_false, List.length_append, List.length_cons, List.length_nil]
      congr 4
      omega
    · subst k
      have hsh : shw q E ⟨4, tA, tN, tP, [], tR⟩ = 60 :: (tN ++ (shP q E tP ++ [47, 62])) := rfl
      rw [hsh] at h ⊢
      have h' : U.drop i = 60 :: (tN ++ (shP q E tP ++ (if true then [47, 62] else [62]) ++ R)) := by rw [h]; simp
      have h'' : U.drop i = 60 :: c0 :: (x' ++ (shP q E tP ++ [47, 62] ++ R)) := by rw [h, hx]; simp
      obtain ⟨r1, r2⟩ := rest_tag h'' (hne 33 (by decide)) (hne 63 (by decide)) (hne 47 (by decide))
      refine ⟨0, ?_⟩
      rw [token_eq U i (Nat.le_of_lt (drop_lt h'')) hUb, r1, cond_false, r2, tag_read P.w hU true h' g1 g2 g3]
      simp only [if_true, List.length_append, List.length_cons, List.length_nil]
      congr 4
      omega
  · dsimp only at k g1 p x
    subst k p x
    have hsh : shw q E ⟨3, tA, tN, [], [], tR⟩ = 60 :: 47 :: (tN ++ [62]) := rfl
    rw [hsh] at h ⊢
    have h' : U.drop i = 60 :: 47 :: (tN ++ 62 :: R) := by rw [h]; simp
    have no := fun e w (he : e ≠ 47) => here_no1 h' 60 e w he
    refine ⟨0, ?_⟩
    rw [token_eq U i (Nat.le_of_lt (drop_lt h')) hUb, decl_no h' (by decide), cond_false]
    unfold tokRest
    rw [no 33 _ (by decide), cond_false, no 33 _ (by decide), cond_false, no 33 _ (by decide), cond_false, no 33 _ (by decide), cond_false, no 63 _ (by decide), cond_false, here_pre (w := [60, 47]) (r := tN ++ 62 :: R) h', cond_true, closing_read hUb h' g1]
    simp only [List.length_append, List.length_cons, List.length_nil]
    congr 4
    omega
  · dsimp only at k n p g1 g2 g3
    subst k n p
    have hsh : shw q E ⟨5, tA, [], [], tT, tR⟩ = tT.flatMap txE := rfl
    rw [hsh] at h ⊢
    exact text_read hU h g1 g2 (h5 rfl)
  · dsimp only at k n p g1 g2 g3 g4
    subst k n p
    have hsh : shw q E ⟨6, tA, [], [], tT, tR⟩ = [60, 33, 91, 67, 68, 65, 84, 65, 91] ++ (tT ++ [93, 93, 62]) := rfl
    rw [hsh] at h ⊢
    have h' : U.drop i = 60 :: 33 :: 91 :: ([67, 68, 65, 84, 65, 91] ++ (tT ++ ([93, 93, 62] ++ R))) := by rw [h]; simp
    have hd9 : U.drop (i + 9) = tT ++ ([93, 93, 62] ++ R) := by
      have := drop_go (x := [60, 33, 91, 67, 68, 65, 84, 65, 91]) (r := tT ++ ([93, 93, 62] ++ R)) (b := U) (i := i) (by rw [h]; simp)
      exact this
    refine ⟨0, ?_⟩
    rw [token_eq U i (Nat.le_of_lt (drop_lt h')) hUb, decl_no h' (by decide), cond_false]
    unfold tokRest
    rw [show hereP U i [60, 33, 45, 45] = false by unfold hereP; rw [h']; rfl, cond_false, here_pre (w := [60, 33, 91, 67, 68, 65, 84, 65, 91]) (r := tT ++ ([93, 93, 62] ++ R)) (by rw [h]; simp), cond_true]
    have := upTo_read (k := 9) (t := tokK 6 i) hUb (by simp) (by simp) hd9 g1
    rw [show ((9 : Nat) : Int) = (9 : Int) from rfl] at this
    rw [this]
    simp only [List.length_append, List.length_cons, List.length_nil]
    congr 4
    omega
  · dsimp only at k n p g1 g2 g3 g4
    subst k n p
    have hsh : shw q E ⟨7, tA, [], [], tT, tR⟩ = [60, 33, 45, 45] ++ (tT ++ [45, 45, 62]) := rfl
    rw [hsh] at h ⊢
    have h' : U.drop i = 60 :: 33 :: ([45, 45] ++ (tT ++ ([45, 45] ++ 62 :: R))) := by rw [h]; simp
    have hd4 : U.drop (i + 4) = tT ++ ([45, 45] ++ 62 :: R) := by
      have := drop_go (x := [60, 33, 45, 45]) (r := tT ++ ([45, 45] ++ 62 :: R)) (b := U) (i := i) (by rw [h]; simp)
      exact this
    have hd5 := drop_go (drop_go hd4)
    have hlt5 := drop_lt hd5
    refine ⟨0, ?_⟩
    rw [token_eq U i (Nat.le_of_lt (drop_lt h')) hUb, decl_no h' (by decide), cond_false]
    unfold tokRest
    have := upTo_read (k := 4) (t := tokK 7 i) hUb (by simp) (by simp) hd4 g1
    rw [show ((4 : Nat) : Int) = (4 : Int) from rfl] at this
    rw [here_pre (w := [60, 33, 45, 45]) (r := tT ++ ([45, 45] ++ 62 :: R)) (by rw [h]; simp), cond_true, this, Option.bind_some]
    dsimp only
    rw [show ((0 : Int) != 0) = false from rfl, cond_false]
    rw [sign_eq U _ _ (by simp only [List.length_cons, List.length_nil] at hlt5 ⊢; omega) hUb, if_pos (by rw [hereP_one, show ([45, 45] : List UInt8).length = 2 from rfl] at *; rw [drop_get hd5]; simp), Option.bind_some]
    simp only [List.length_append, List.length_cons, List.length_nil]
    congr 4
    omega
  · dsimp only at k g1 p g2 g3 g4 g5
    subst k p
    have no := fun {r d} (h' : U.drop i = 60 :: 63 :: (tN ++ d :: r)) e w (he : e ≠ 63) => here_no1 h' 60 e w he
    refine ⟨0, ?_⟩
    by_cases hx : tT = []
    · subst hx
      have hsh : shw q E ⟨8, tA, tN, [], [], tR⟩ = 60 :: 63 :: (tN ++ [63, 62]) := rfl
      rw [hsh] at h ⊢
      have h' : U.drop i = 60 :: 63 :: (tN ++ 63 :: 62 :: R) := by rw [h]; simp
      rw [token_eq U i (Nat.le_of_lt (drop_lt h')) hUb, instr_nodecl h' (.inl rfl) g2 g3, cond_false]
      unfold tokRest
      rw [no h' 33 _ (by decide), cond_false, no h' 33 _ (by decide), cond_false, no h' 33 _ (by decide), cond_false, no h' 33 _ (by decide), cond_false, here_pre (w := [60, 63]) (r := tN ++ 63 :: 62 :: R) h', cond_true, instr_read0 hUb h' g1 g2 g3]
      simp only [List.length_append, List.length_cons, List.length_nil]
      congr 4
      omega
    · have hsh : shw q E ⟨8, tA, tN, [], tT, tR⟩ = 60 :: 63 :: (tN ++ 32 :: (tT ++ [63, 62])) := by
        unfold shw; exact if_neg hx
      rw [hsh] at h ⊢
      obtain ⟨f1, f2, f3, f4⟩ := g5.resolve_left hx
      have h' : U.drop i = 60 :: 63 :: (tN ++ 32 :: (tT ++ 63 :: 62 :: R)) := by rw [h]; simp
      rw [token_eq U i (Nat.le_of_lt (drop_lt h')) hUb, instr_nodecl h' (.inr rfl) g2 g3, cond_false]
      unfold tokRest
      rw [no h' 33 _ (by decide), cond_false, no h' 33 _ (by decide), cond_false, no h' 33 _ (by decide), cond_false, no h' 33 _ (by decide), cond_false, here_pre (w := [60, 63]) (r := tN ++ 32 :: (tT ++ 63 :: 62 :: R)) h', cond_true, instr_read1 hUb h' g1 g2 g3 f1 f4]
      simp only [List.length_append, List.length_cons, List.length_nil]
      congr 4
      omega
end Go.Proofs.YtfokkdofcekdbaaDoor
set_option maxRecDepth 20000
namespace Go.Proofs.YtfokkdofcekdbaaDoor
open Go.Lib (decodeL decodeN)
def qB (b : Bool) : UInt8 := if b then 39 else 34
def eB (b : Bool) : UInt8 → List UInt8 := if b then apE else quE
theorem qpB (b : Bool) : QP (qB b) (eB b) := by cases b; exact qp_qu; exact qp_ap
theorem dok_sz {k : Nat} {ps : List T_scan_Pair} {la la' : List UInt8} (h : DOk k ps la la') : ∀ p ∈ ps, p.Name.length ≤ 65536 ∧ p.Value.length ≤ 262144 := by
  induction h with
  | done => intro p hp; cases hp
  | skip _ _ _ ih => exact ih
  | @take k w v ps la la' h1 h2 h3 h4 h5 ih =>
    intro p hp
    rcases List.mem_cons.1 hp with rfl | hp
    · obtain ⟨w', c, hidx, hl, _⟩ := declW_hd k h1
      rw [hidx] at h2
      rw [← Option.some.inj h2]
      exact ⟨by dsimp only; omega, by dsimp only; omega⟩
    · exact ih p hp
theorem good_sz {t : Tk} (G : Good t) : t.Name.length ≤ 65536 ∧ t.Text.length ≤ 262144 ∧ ∀ p ∈ t.Pairs, p.Name.length ≤ 65536 ∧ p.Value.length ≤ 262144 := by
  rcases G with ⟨k, n, x, la, g1, g2⟩ | ⟨k, g1, g2, g3, x⟩ | ⟨k, g1, p, x⟩ | ⟨k, n, p, g1, g2, g3⟩ | ⟨k, n, p, g1, g2, g3, g4⟩ | ⟨k, n, p, g1, g2, g3, g4⟩ | ⟨k, g1, p, g2, g3, g4, g5⟩
  · rw [n, x]; exact ⟨Nat.zero_le _, Nat.zero_le _, dok_sz g1⟩
  · rw [x]; exact ⟨nameAt_len g1, Nat.zero_le _, fun p hp => ⟨nameAt_len (g2 p hp).1, (g2 p hp).2.2⟩⟩
  · rw [x, p]; exact ⟨nameAt_len g1, Nat.zero_le _, fun p hp => by cases hp⟩
  · rw [n, p]; exact ⟨Nat.zero_le _, g3, fun p hp => by cases hp⟩
  · rw [n, p]; exact ⟨Nat.zero_le _, by omega, fun p hp => by cases hp⟩
  · rw [n, p]; exact ⟨Nat.zero_le _, by omega, fun p hp => by cases hp⟩
  · rw [p]; exact ⟨nameAt_len g1, by omega, fun p hp => by cases hp⟩
theorem shP_len {q : UInt8} {E : UInt8 → List UInt8} (W : QW q E) : ∀ ps : List T_scan_Pair, (∀ p ∈ ps, p.Name.length ≤ 65536 ∧ p.Value.length ≤ 262144) → (shP q E ps).length ≤ ps.length * 2200000
  | [], _ => by simp [shP]
  | p :: ps, h => by
    have h1 := h p List.mem_cons_self
    have h2 := flatMap_len W.le p.Value
    have h3 := shP_len W ps fun r hr => h r (List.mem_cons_of_mem _ hr)
    rw [shP_cons]
    simp only [List.length_cons, List.length_append]
    omega
theorem shw_len {q : UInt8} {E : UInt8 → List UInt8} (W : QW q E) {t : Tk} (G : Good t) (hp : t.Pairs.length ≤ 70000) : (shw q E t).length ≤ 200000000000 := by
  obtain ⟨s1, s2, s3⟩ := good_sz G
  have h1 := shP_len W t.Pairs s3
  have h2 := flatMap_len (fun c => (tx_facts.2.2.2.2.1 c).2) t.Text
  have h4 : t.Pairs.length * 2200000 ≤ 70000 * 2200000 := Nat.mul_le_mul_right _ hp
  unfold shw
  split
  · simp only [List.length_cons, List.length_append, List.length_nil]; omega
  split
  · simp only [List.length_cons, List.length_append, List.length_nil]; omega
  split
  · simp only [List.length_cons, List.length_append, List.length_nil]; omega
  split
  · simp only [List.length_cons, List.length_append, List.length_nil]; omega
  split
  · omega
  split
  · simp only [List.length_cons, List.length_append, List.length_nil]; omega
  split
  · simp only [List.length_cons, List.length_append, List.length_nil]; omega
  split
  · simp only [List.length_cons, List.length_append, List.length_nil]; omega
  · simp only [List.length_cons, List.length_append, List.length_nil]; omega
theorem pairs_shown (b : Bool) (t : Tk) (hp : t.Pairs.length ≤ 70000) (hs : ∀ p ∈ t.Pairs, p.Name.length ≤ 65536 ∧ p.Value.length ≤ 262144) : iter (F_lecternlaw03_shown_l0 t [qB b]) FUEL (([] : List UInt8), (0 : Int)) = some (shP (qB b) (eB b) t.Pairs) := by
  obtain ⟨o, e1, e2⟩ := iter_spec (b := F_lecternlaw03_shown_l0 t [qB b]) (fun i x => x = (shP (qB b) (eB b) (t.Pairs.take i), (i : Int))) (fun o => o = shP (qB b) (eB b) t.Pairs) t.Pairs.length (x0 := (([] : List UInt8), (0 : Int))) (by simp [shP]) (by
    rintro i _ rec hi rfl
    left
    refine ⟨(shP (qB b) (eB b) (t.Pairs.take (i + 1)), ((i + 1 : Nat) : Int)), ?_, rfl⟩
    have hm := List.getElem_mem hi
    obtain ⟨z1, z2⟩ := hs _ hm
    have h1 := shP_len (qpB b).w (t.Pairs.take i) fun p hp => hs p (List.mem_of_mem_take hp)
    have h4 : (t.Pairs.take i).length * 2200000 ≤ 70000 * 2200000 := Nat.mul_le_mul_right _ (by rw [List.length_take]; omega)
    have h3 := flatMap_len (qpB b).w.le t.Pairs[i].Value
    have hfin : shP (qB b) (eB b) (t.Pairs.take (i + 1)) = ((((((shP (qB b) (eB b) (t.Pairs.take i) ++ ([32] : List UInt8)) ++ t.Pairs[i].Name) ++ ([61] : List UInt8)) ++ [qB b]) ++ t.Pairs[i].Value.flatMap (eB b)) ++ [qB b]) := by
      rw [List.take_add_one, List.getElem?_eq_getElem hi, Option.toList_some]
      unfold shP
      rw [List.flatMap_append, List.flatMap_singleton]
      simp
    rw [hfin]
    unfold F_lecternlaw03_shown_l0
    simp only [letJ]
    rw [decide_eq_true (by omega), cond_true, idx_some hi, Option.bind_some, quote_w _ (by omega), Option.bind_some, w64 (by omega) (by omega)]
    generalize hX : shP (qB b) (eB b) (t.Pairs.take i) = X at h1 ⊢
    have core : ∀ v : List UInt8, v.length ≤ 8 * t.Pairs[i].Value.length → ((cat X ([32] : List UInt8)).bind fun _ => (cat (X ++ ([32] : List UInt8)) t.Pairs[i].Name).bind fun _ => (cat ((X ++ ([32] : List UInt8)) ++ t.Pairs[i].Name) ([61] : List UInt8)).bind fun _ =>
        (cat (((X ++ ([32] : List UInt8)) ++ t.Pairs[i].Name) ++ ([61] : List UInt8)) [qB b]).bind fun _ => (cat ((((X ++ ([32] : List UInt8)) ++ t.Pairs[i].Name) ++ ([61] : List UInt8)) ++ [qB b]) v).bind fun _ =>
        (cat (((((X ++ ([32] : List UInt8)) ++ t.Pairs[i].Name) ++ ([61] : List UInt8)) ++ [qB b]) ++ v) [qB b]).bind fun _ => rec (((((((X ++ ([32] : List UInt8)) ++ t.Pairs[i].Name) ++ ([61] : List UInt8)) ++ [qB b]) ++ v) ++ [qB b]), ((i : Int) + 1))) = rec (((((((X ++ ([32] : List UInt8)) ++ t.Pairs[i].Name) ++ ([61] : List UInt8)) ++ [qB b]) ++ v) ++ [qB b]), ((i + 1 : Nat) : Int)) := by
      intro v hv
      iterate 6 rw [cat_some (by simp only [List.length_append, List.length_cons, List.length_nil]; omega), Option.bind_some]
      rfl
    cases b with
    | true =>
      rw [show (([qB true] : List UInt8) == [39]) = true from rfl, cond_true, apart_w _ (by omega), Option.bind_some]
      exact core _ h3
    | false =>
      rw [show (([qB false] : List UInt8) == [39]) = false from rfl, cond_false]
      exact core _ h3) (by
    rintro _ rec rfl
    refine ⟨_, ?_, rfl⟩
    unfold F_lecternlaw03_shown_l0
    dsimp only
    rw [decide_eq_false (by omega), cond_false, List.take_length]) (n := FUEL) (by unfold FUEL; omega)
  rw [e1, e2]
theorem shown_eq (b : Bool) {t : Tk} (G : Good t) (hp : t.Pairs.length ≤ 70000) : F_lecternlaw03_shown t [qB b] = some (shw (qB b) (eB b) t) := by
  obtain ⟨s1, s2, s3⟩ := good_sz G
  have h1 := shP_len (qpB b).w t.Pairs s3
  have h4 : t.Pairs.length * 2200000 ≤ 70000 * 2200000 := Nat.mul_le_mul_right _ hp
  have hpr := pairs_shown b t hp s3
  unfold F_lecternlaw03_shown
  simp only [letJ]
  rw [hpr, Option.bind_some]
  generalize hS : shP (qB b) (eB b) t.Pairs = S at h1 ⊢
  unfold shw
  rw [hS]
  by_cases k1 : t.Kind = 1
  · rw [if_pos k1, show (t.Kind == 1) = true by simp [k1], cond_true]
    iterate 2 rw [cat_some (by simp only [List.length_append, List.length_cons, List.length_nil]; omega), Option.bind_some]
    simp
  rw [if_neg k1, show (t.Kind == 1) = false by simpa using k1, cond_false]
  by_cases k2 : t.Kind = 2
  · rw [if_pos k2, show (t.Kind == 2) = true by simp [k2], cond_true]
    iterate 3 rw [cat_some (by simp only [List.length_append, List.length_cons, List.length_nil]; omega), Option.bind_some]
    simp
  rw [if_neg k2, show (t.Kind == 2) = false by simpa using k2, cond_false]
  by_cases k4 : t.Kind = 4
  · rw [if_pos k4, show (t.Kind == 4) = true by simp [k4], cond_true]
    iterate 3 rw [cat_some (by simp only [List.length_append, List.length_cons, List.length_nil]; omega), Option.bind_some]
    simp
  rw [if_neg k4, show (t.Kind == 4) = false by simpa using k4, cond_false]
  by_cases k3 : t.Kind = 3
  · rw [if_pos k3, show (t.Kind == 3) = true by simp [k3], cond_true]
    iterate 2 rw [cat_some (by simp only [List.length_append, List.length_cons, List.length_nil]; omega), Option.bind_some]
    simp
  rw [if_neg k3, show (t.Kind == 3) = false by simpa using k3, cond_false]
  by_cases k5 : t.Kind = 5
  · rw [if_pos k5, show (t.Kind == 5) = true by simp [k5], cond_true, text_w _ (by omega), Option.bind_some]
  rw [if_neg k5, show (t.Kind == 5) = false by simpa using k5, cond_false]
  by_cases k6 : t.Kind = 6
  · rw [if_pos k6, show (t.Kind == 6) = true by simp [k6], cond_true]
    iterate 2 rw [cat_some (by simp only [List.length_append, List.length_cons, List.length_nil]; omega), Option.bind_some]
    simp
  rw [if_neg k6, show (t.Kind == 6) = false by simpa using k6, cond_false]
  by_cases k7 : t.Kind = 7
  · rw [if_pos k7, show (t.Kind == 7) = true by simp [k7], cond_true]
    iterate 2 rw [cat_some (by simp only [List.length_append, List.length_cons, List.length_nil]; omega), Option.bind_some]
    simp
  rw [if_neg k7, show (t.Kind == 7) = false by simpa using k7, cond_false]
  by_cases kx : t.Text = []
  · rw [if_pos kx, show (t.Text == ([] : List UInt8)) = true by simp [kx], cond_true]
    iterate 2 rw [cat_some (by simp only [List.length_append, List.length_cons, List.length_nil]; omega), Option.bind_some]
    simp
  · rw [if_neg kx, show (t.Text == ([] : List UInt8)) = false by simpa using kx, cond_false]
    iterate 4 rw [cat_some (by simp only [List.length_append, List.length_cons, List.length_nil]; omega), Option.bind_some]
    simp
theorem okT_pairs {q : UInt8} {E : UInt8 → List UInt8} (W : QW q E) : ∀ ps : List T_scan_Pair, (∀ p ∈ ps, OkT p.Name ∧ (13 : UInt8) ∉ p.Name ∧ OkT p.Value) → OkT (shP q E ps) ∧ (13 : UInt8) ∉ shP q E ps
  | [], _ => ⟨.nil, by simp [shP]⟩
  | p :: ps, h => by
    obtain ⟨h1, h2, h3⟩ := h p List.mem_cons_self
    obtain ⟨g1, g2⟩ := okT_pairs W ps fun r hr => h r (List.mem_cons_of_mem _ hr)
    have hq : q.toNat < 128 ∧ charP (q.toNat : Int) = true ∧ q ≠ 13 := by rcases W.hq with rfl | rfl <;> decide
    rw [shP_cons]
    refine ⟨okT_ascii 32 _ (by decide) (by decide) (okT_app h1 (okT_ascii 61 _ (by decide) (by decide) (okT_ascii q _ hq.1 hq.2.1 (okT_app (okT_flat W.ok W.hi h3) (okT_ascii q _ hq.1 hq.2.1 g1))))), ?_⟩
    simp only [List.mem_cons, List.mem_append, not_or]
    exact ⟨by decide, h2, by decide, hq.2.2.symm, not_mem_flat W.n13 _, hq.2.2.symm, g2⟩
theorem dok_ok {k : Nat} {ps : List T_scan_Pair} {la la' : List UInt8} (h : DOk k ps la la') : ∀ p ∈ ps, OkT p.Name ∧ (13 : UInt8) ∉ p.Name ∧ OkT p.Value := by
  induction h with
  | done => intro p hp; cases hp
  | skip _ _ _ ih => exact ih
  | @take k w v ps la la' h1 h2 h3 h4 h5 ih =>
    intro p hp
    rcases List.mem_cons.1 hp with rfl | hp
    · have hw : w = [118, 101, 114, 115, 105, 111, 110] ∨ w = [101, 110, 99, 111, 100, 105, 110, 103] ∨ w = [115, 116, 97, 110, 100, 97, 108, 111, 110, 101] := by
        have hk : k = 0 ∨ k = 1 ∨ k = 2 := by omega
        rcases hk with rfl | rfl | rfl
        · left; exact (Option.some.inj h2).symm
        · right; left; exact (Option.some.inj h2).symm
        · right; right; exact (Option.some.inj h2).symm
      have hv : OkT v := okT_asc v fun c hc => by
        have := plB_facts c (fits_plain (by omega) h3 c hc)
        exact ⟨this.2.2.2.2.2.1, this.2.2.2.2.2.2⟩
      refine ⟨?_, ?_, hv⟩
      · show OkT w
        rcases hw with rfl | rfl | rfl <;> exact okT_asc _ (by decide)
      · show (13 : UInt8) ∉ w
        rcases hw with rfl | rfl | rfl <;> decide
    · exact ih p hp
theorem shw_ok {q : UInt8} {E : UInt8 → List UInt8} (W : QW q E) {t : Tk} (G : Good t) : OkT (shw q E t) ∧ (13 : UInt8) ∉ shw q E t ∧ shw q E t ≠ [] ∧ (t.Kind ≠ 5 → ∃ r, shw q E t = 60 :: r) := by
  obtain ⟨tK, tA, tN, tP, tT, tR⟩ := t
  have asc : ∀ w : List UInt8, (∀ c ∈ w, c.toNat < 128 ∧ charP (c.toNat : Int) = true) → OkT w := okT_asc
  rcases G with ⟨k, n, x, la, g1, g2⟩ | ⟨k, g1, g2, g3, x⟩ | ⟨k, g1, p, x⟩ | ⟨k, n, p, g1, g2, g3⟩ | ⟨k, n, p, g1, g2, g3, g4⟩ | ⟨k, n, p, g1, g2, g3, g4⟩ | ⟨k, g1, p, g2, g3, g4, g5⟩
  · dsimp only at k n x g1
    subst k n x
    obtain ⟨p1, p2⟩ := okT_pairs W tP (dok_ok g1)
    rw [show shw q E ⟨1, tA, [], tP, [], tR⟩ = [60, 63, 120, 109, 108] ++ (shP q E tP ++ [63, 62]) from rfl]
    refine ⟨okT_app (asc _ (by decide)) (okT_app p1 (asc _ (by decide))), ?_, by simp, fun _ => ⟨_, rfl⟩⟩
    simp only [List.mem_append, not_or]
    exact ⟨by decide, p2, by decide⟩
  · dsimp only at k g1 g2 g3 x
    subst x
    obtain ⟨n1, n2⟩ := nameAt_ok g1
    obtain ⟨p1, p2⟩ := okT_pairs W tP fun p hp => ⟨(nameAt_ok (g2 p hp).1).1, (nameAt_ok (g2 p hp).1).2, (g2 p hp).2.1⟩
    rcases k with k | k
    · subst k
      rw [show shw q E ⟨2, tA, tN, tP, [], tR⟩ = 60 :: (tN ++ (shP q E tP ++ [62])) from rfl]
      refine ⟨okT_ascii 60 _ (by decide) (by decide) (okT_app n1 (okT_app p1 (asc _ (by decide)))), ?_, by simp, fun _ => ⟨_, rfl⟩⟩
      simp only [List.mem_append, List.mem_cons, not_or]
      exact ⟨by decide, n2, p2, by decide, by simp⟩
    · subst k
      rw [show shw q E ⟨4, tA, tN, tP, [], tR⟩ = 60 :: (tN ++ (shP q E tP ++ [47, 62])) from rfl]
      refine ⟨okT_ascii 60 _ (by decide) (by decide) (okT_app n1 (okT_app p1 (asc _ (by decide)))), ?_, by simp, fun _ => ⟨_, rfl⟩⟩
      simp only [List.mem_append, List.mem_cons, not_or]
      exact ⟨by decide, n2, p2, by decide, by decide, by simp⟩
  · dsimp only at k g1 p x
    subst k p x
    obtain ⟨n1, n2⟩ := nameAt_ok g1
    rw [show shw q E ⟨3, tA, tN, [], [], tR⟩ = 60 :: 47 :: (tN ++ [62]) from rfl]
    refine ⟨okT_ascii 60 _ (by decide) (by decide) (okT_ascii 47 _ (by decide) (by decide) (okT_app n1 (asc _ (by decide)))), ?_, by simp, fun _ => ⟨_, rfl⟩⟩
    simp only [List.mem_append, List.mem_cons, not_or]
    exact ⟨by decide, by decide, n2, by decide, by simp⟩
  · dsimp only at k n p g1 g2 g3
    subst k n p
    obtain ⟨t1, t2, t3, t4, t5, t6⟩ := tx_facts
    rw [show shw q E ⟨5, tA, [], [], tT, tR⟩ = tT.flatMap txE from rfl]
    refine ⟨okT_flat t6 t4 g1, not_mem_flat t3 _, fun hc => ?_, fun h => absurd rfl h⟩
    have := flat_ge (fun c => (t5 c).1) tT
    rw [hc] at this
    have h0 : tT.length = 0 := by simpa using this
    exact g2 (List.length_eq_zero_iff.1 h0)
  · dsimp only at k n p g1 g2 g3 g4
    subst k n p
    rw [show shw q E ⟨6, tA, [], [], tT, tR⟩ = [60, 33, 91, 67, 68, 65, 84, 65, 91] ++ (tT ++ [93, 93, 62]) from rfl]
    refine ⟨okT_app (asc _ (by decide)) (okT_app g2 (asc _ (by decide))), ?_, by simp, fun _ => ⟨_, rfl⟩⟩
    simp only [List.mem_append, not_or]
    exact ⟨by decide, g3, by decide⟩
  · dsimp only at k n p g1 g2 g3 g4
    subst k n p
    rw [show shw q E ⟨7, tA, [], [], tT, tR⟩ = [60, 33, 45, 45] ++ (tT ++ [45, 45, 62]) from rfl]
    refine ⟨okT_app (asc _ (by decide)) (okT_app g2 (asc _ (by decide))), ?_, by simp, fun _ => ⟨_, rfl⟩⟩
    simp only [List.mem_append, not_or]
    exact ⟨by decide, g3, by decide⟩
  · dsimp only at k g1 p g2 g3 g4 g5
    subst k p
    obtain ⟨n1, n2⟩ := nameAt_ok g1
    by_cases hx : tT = []
    · subst hx
      rw [show shw q E ⟨8, tA, tN, [], [], tR⟩ = 60 :: 63 :: (tN ++ [63, 62]) from rfl]
      refine ⟨okT_ascii 60 _ (by decide) (by decide) (okT_ascii 63 _ (by decide) (by decide) (okT_app n1 (asc _ (by decide)))), ?_, by simp, fun _ => ⟨_, rfl⟩⟩
      simp only [List.mem_append, List.mem_cons, not_or]
      exact ⟨by decide, by decide, n2, by decide, by decide, by simp⟩
    · obtain ⟨f1, f2, f3, f4⟩ := g5.resolve_left hx
      rw [show shw q E ⟨8, tA, tN, [], tT, tR⟩ = 60 :: 63 :: (tN ++ 32 :: (tT ++ [63, 62])) from if_neg hx]
      refine ⟨okT_ascii 60 _ (by decide) (by decide) (okT_ascii 63 _ (by decide) (by decide) (okT_app n1 (okT_ascii 32 _ (by decide) (by decide) (okT_app f2 (asc _ (by decide)))))), ?_, by simp, fun _ => ⟨_, rfl⟩⟩
      simp only [List.mem_append, List.mem_cons, not_or]
      exact ⟨by decide, by decide, n2, by decide, f3, by decide, by decide, by simp⟩
end Go.Proofs.YtfokkdofcekdbaaDoor
set_option maxRecDepth 20000
namespace Go.Proofs.YtfokkdofcekdbaaDoor
open Go.Lib (decodeL decodeN)
def allW (q : UInt8) (E : UInt8 → List UInt8) (L : List Tk) : List UInt8 := L.flatMap (shw q E)
theorem tr_last {b : List UInt8} {L : List Tk} {j : Nat} (h : Tr b L j) : ∀ t, L.getLast? = some t → ∃ i, TokOk b i t j := by
  cases h with
  | nil => intro t h; cases h
  | @snoc L j k t h1 h2 h3 h4 h5 =>
    intro t' ht
    rw [List.getLast?_concat] at ht
    exact ⟨_, Option.some.inj ht ▸ h4⟩
theorem tr_good {T : List UInt8} (hT : T.length ≤ 65536) (hok : OkT T) (h13 : (13 : UInt8) ∉ T) {L : List Tk} {j : Nat} (h : Tr T L j) : ∀ t ∈ L, Good t ∧ t.Pairs.length ≤ 70000 := by
  induction h with
  | nil => intro t h; cases h
  | @snoc L j k t h1 h2 h3 h4 h5 ih =>
    intro t' ht
    rcases List.mem_append.1 ht with ht | ht
    · exact ih t' ht
    · rw [List.mem_singleton.1 ht]
      have := h4.len
      exact ⟨(token_good hT hok h13 h2 h3 h4 h5).1, by omega⟩
def Like (q : UInt8) (E : UInt8 → List UInt8) (L M : List Tk) : Prop := M.length = L.length ∧ ∀ (k : Nat) (t : Tk), L[k]? = some t → ∃ n, M[k]? = some ⟨t.Kind, ((allW q E (L.take k)).length : Int), t.Name, t.Pairs, t.Text, n⟩
theorem again {q : UInt8} {E : UInt8 → List UInt8} (P : QP q E) {T : List UInt8} (hT : T.length ≤ 65536) (hok : OkT T) (h13 : (13 : UInt8) ∉ T) {L : List Tk} {j : Nat} (h : Tr T L j) :
    ∀ R, (∀ t, L.getLast? = some t → t.Kind = 5 → R = [] ∨ R[0]? = some 60) → (allW q E L ++ R).length ≤ 65536 → ∃ M, Tr (allW q E L ++ R) M (allW q E L).length ∧ Like q E L M := by
  induction h with
  | nil => intro R _ _; exact ⟨[], .nil, rfl, fun k t h => by simp at h⟩
  | @snoc L j k t h1 h2 h3 h4 h5 ih =>
    intro R hR hl
    obtain ⟨g1, g2, g3, g4⟩ := token_good hT hok h13 h2 h3 h4 h5
    obtain ⟨s1, s2, s3, s4⟩ := shw_ok P.w g1
    have e : allW q E (L ++ [t]) ++ R = allW q E L ++ (shw q E t ++ R) := by unfold allW; rw [List.flatMap_append, List.flatMap_singleton, List.append_assoc]
    have e2 : (allW q E (L ++ [t])).length = (allW q E L).length + (shw q E t).length := by unfold allW; rw [List.flatMap_append, List.flatMap_singleton, List.length_append]
    rw [e] at hl ⊢
    obtain ⟨M, m1, m2, m3⟩ := ih (shw q E t ++ R) (fun t0 ht0 hk0 => by
      right
      obtain ⟨i0, ok0⟩ := tr_last h1 t0 ht0
      have hnt : t.Kind ≠ 5 := fun hk => by
        rcases (ok0.txt hk0).2 with h | h
        · omega
        · exact g3 hk h
      obtain ⟨r, hr⟩ := s4 hnt
      rw [hr]; rfl) hl
    have hU : (allW q E L ++ (shw q E t ++ R)).drop (allW q E L).length = shw q E t ++ R := List.drop_left
    have hfin := hR t (List.getLast?_concat ..)
    have hz : t.Kind = 1 → (allW q E L).length = 0 := fun hk => by
      have hj := g2 hk
      subst hj
      have := (tr_le h1).2
      have : L = [] := List.length_eq_zero_iff.1 (by omega)
      subst this; rfl
    obtain ⟨n, hn⟩ := token_again P g1 hl hU hfin hz
    have hpos : 0 < (shw q E t).length := List.length_pos_iff.2 s3
    have hlt : (allW q E L).length < (allW q E L ++ (shw q E t ++ R)).length := by simp only [List.length_append]; omega
    have hle : (allW q E L).length + (shw q E t).length ≤ (allW q E L ++ (shw q E t ++ R)).length := by simp only [List.length_append]; omega
    have hTok : TokOk (allW q E L ++ (shw q E t ++ R)) (allW q E L).length ⟨t.Kind, ((allW q E L).length : Int), t.Name, t.Pairs, t.Text, n⟩ ((allW q E L).length + (shw q E t).length) := by
      obtain ⟨y, hy, e0, j0, t2, rfl, hj, hok2⟩ := token_sp (allW q E L ++ (shw q E t ++ R)) (allW q E L).length hlt hl
      rw [hn] at hy
      have hy := Option.some.inj hy
      injection hy with y1 hy
      injection hy with y2 y3
      injection y2 with _ y2
      subst y1 y3
      have : j0 = (allW q E L).length + (shw q E t).length := by omega
      subst this
      exact hok2 rfl
    refine ⟨M ++ [⟨t.Kind, ((allW q E L).length : Int), t.Name, t.Pairs, t.Text, n⟩], ?_, by simp [m2], fun k' t' hk' => ?_⟩
    · rw [e2]; exact .snoc m1 hlt hn hTok hle
    · by_cases hlt' : k' < L.length
      · rw [List.getElem?_append_left hlt'] at hk'
        obtain ⟨n', hn'⟩ := m3 k' t' hk'
        refine ⟨n', ?_⟩
        rw [List.getElem?_append_left (by omega), hn', List.take_append_of_le_length (by omega)]
      · have hk2 : k' = L.length := by
          have := (List.getElem?_eq_some_iff.1 hk').1
          simp at this; omega
        subst hk2
        rw [List.getElem?_append_right (Nat.le_refl _), Nat.sub_self] at hk'
        have : t = t' := by simpa using hk'
        subst this
        refine ⟨n, ?_⟩
        rw [← m2, List.getElem?_append_right (Nat.le_refl _), Nat.sub_self, m2, List.take_left]
        rfl
theorem allW_ok {q : UInt8} {E : UInt8 → List UInt8} (W : QW q E) : ∀ L : List Tk, (∀ t ∈ L, Good t) → OkT (allW q E L) ∧ (13 : UInt8) ∉ allW q E L
  | [], _ => ⟨.nil, by simp [allW]⟩
  | t :: L, h => by
    obtain ⟨h1, h2⟩ := allW_ok W L fun r hr => h r (List.mem_cons_of_mem _ hr)
    obtain ⟨s1, s2, _⟩ := shw_ok W (h t List.mem_cons_self)
    unfold allW at h1 h2 ⊢
    rw [List.flatMap_cons]
    exact ⟨okT_app s1 h1, by rw [List.mem_append, not_or]; exact ⟨s2, h2⟩⟩
theorem allW_len {q : UInt8} {E : UInt8 → List UInt8} (W : QW q E) : ∀ L : List Tk, (∀ t ∈ L, Good t ∧ t.Pairs.length ≤ 70000) → (allW q E L).length ≤ L.length * 200000000000
  | [], _ => by simp [allW]
  | t :: L, h => by
    have h1 := allW_len W L fun r hr => h r (List.mem_cons_of_mem _ hr)
    have h2 := shw_len W (h t List.mem_cons_self).1 (h t List.mem_cons_self).2
    unfold allW at h1 ⊢
    rw [List.flatMap_cons, List.length_append, List.length_cons]; omega
theorem shows_l0 (b : Bool) (L : List Tk) (a e : Int) (hL : L.length ≤ 65536) (hg : ∀ t ∈ L, Good t ∧ t.Pairs.length ≤ 70000) :
    iter (F_lecternlaw03_ScanShows_l0 (L, a, e) [qB b]) FUEL (([] : List UInt8), ([] : List Int), (0 : Int)) = some (allW (qB b) (eB b) L, (List.range L.length).map fun k => ((allW (qB b) (eB b) (L.take k)).length : Int)) := by
  obtain ⟨o, e1, e2⟩ := iter_spec (b := F_lecternlaw03_ScanShows_l0 (L, a, e) [qB b]) (fun i x => x = (allW (qB b) (eB b) (L.take i), (List.range i).map (fun k => ((allW (qB b) (eB b) (L.take k)).length : Int)), (i : Int))) (fun o => o = (allW (qB b) (eB b) L, (List.range L.length).map fun k => ((allW (qB b) (eB b) (L.take k)).length : Int))) L.length (x0 := (([] : List UInt8), ([] : List Int), (0 : Int))) rfl (by
    rintro i _ rec hi rfl
    left
    refine ⟨(allW (qB b) (eB b) (L.take (i + 1)), (List.range (i + 1)).map (fun k => ((allW (qB b) (eB b) (L.take k)).length : Int)), ((i + 1 : Nat) : Int)), ?_, rfl⟩
    obtain ⟨g1, g2⟩ := hg _ (List.getElem_mem hi)
    have h1 := allW_len (qpB b).w (L.take i) fun t ht => hg t (List.mem_of_mem_take ht)
    have h4 : (L.take i).length * 200000000000 ≤ 65536 * 200000000000 := Nat.mul_le_mul_right _ (by rw [List.length_take]; omega)
    have h2 := shw_len (qpB b).w g1 g2
    unfold F_lecternlaw03_ScanShows_l0
    dsimp only
    rw [decide_eq_true (by omega), cond_true, idx_some hi, Option.bind_some, app_some (by simp; omega) (by simp; omega), Option.bind_some, shown_eq b g1 g2, Option.bind_some, cat_some (by omega), Option.bind_some, w64 (by omega) (by omega), List.range_succ, List.map_append, List.map_singleton, List.take_add_one, List.getElem?_eq_getElem hi, Option.toList_some]
    have : allW (qB b) (eB b) (L.take i ++ [L[i]]) = allW (qB b) (eB b) (L.take i) ++ shw (qB b) (eB b) L[i] := by unfold allW; rw [List.flatMap_append, List.flatMap_singleton]
    rw [this]
    rfl) (by
    rintro _ rec rfl
    refine ⟨_, ?_, rfl⟩
    unfold F_lecternlaw03_ScanShows_l0
    dsimp only
    rw [decide_eq_false (by omega), cond_false, List.take_length]) (n := FUEL) (by unfold FUEL; omega)
  rw [e1, e2]
theorem same_any (t u : T_lecternref03_Token) (hl : t.Pairs.length ≤ 1073742000) (h1 : t.Kind = u.Kind) (h2 : t.Name = u.Name) (h3 : t.Text = u.Text) (h4 : t.Refs = u.Refs) (h5 : t.Pairs = u.Pairs) : F_lecternref03_Same t u = some true := by
  have hb : F_lecternref03_Same_l0 t u = F_lecternref03_Same_l0 t t := by
    unfold F_lecternref03_Same_l0
    rw [h5]
  have := same_self t hl
  unfold F_lecternref03_Same at this ⊢
  rw [hb, ← h1, ← h2, ← h3, ← h4, ← h5]
  exact this
theorem shows_l1 {q : UInt8} {E : UInt8 → List UInt8} (L M : List Tk) (a e c f : Int) (hL : L.length ≤ 65536) (hg : ∀ t ∈ L, t.Pairs.length ≤ 70000) (hM : Like q E L M) :
    iter (F_lecternlaw03_ScanShows_l1 (L, a, e) ((List.range L.length).map fun k => ((allW q E (L.take k)).length : Int)) (M, c, f)) FUEL (0 : Int) = some (.inl ()) := by
  obtain ⟨o, e1, e2⟩ := iter_spec (b := F_lecternlaw03_ScanShows_l1 (L, a, e) ((List.range L.length).map fun k => ((allW q E (L.take k)).length : Int)) (M, c, f)) (fun i x => x = (i : Int)) (fun o => o = .inl ()) L.length (x0 := (0 : Int)) rfl (by
    rintro i _ rec hi rfl
    left
    refine ⟨((i + 1 : Nat) : Int), ?_, rfl⟩
    obtain ⟨n, hn⟩ := hM.2 i L[i] (List.getElem?_eq_getElem hi)
    obtain ⟨hiM, hn⟩ := List.getElem?_eq_some_iff.1 hn
    have hp := hg _ (List.getElem_mem hi)
    have hr : idx ((List.range L.length).map fun k => ((allW q E (L.take k)).length : Int)) (i : Int) = some ((allW q E (L.take i)).length : Int) := by
      rw [idx_some (by simpa using hi)]; simp
    unfold F_lecternlaw03_ScanShows_l1
    simp only [letJ]
    rw [decide_eq_true (by omega), cond_true, idx_some hi, Option.bind_some, idx_some hiM, Option.bind_some, hn, doc_eq _ (by omega), Option.bind_some, doc_eq _ (by show L[i].Pairs.length ≤ _; omega), Option.bind_some]
    dsimp only
    rw [same_any ⟨L[i].Kind, L[i].At, L[i].Name, L[i].Pairs, L[i].Text, 0⟩ ⟨L[i].Kind, ((allW q E (L.take i)).length : Int), L[i].Name, L[i].Pairs, L[i].Text, 0⟩ (by show L[i].Pairs.length ≤ _; omega) rfl rfl rfl rfl rfl, Option.bind_some, Bool.not_true, cond_false, Option.bind_some, hr, Option.bind_some, bne_self_eq_false, cond_false, w64 (by omega) (by omega)]
    rfl) (by
    rintro _ rec rfl
    refine ⟨_, ?_, rfl⟩
    unfold F_lecternlaw03_ScanShows_l1
    simp only [letJ]
    rw [decide_eq_false (by omega), cond_false]) (n := FUEL) (by unfold FUEL; omega)
  rw [e1, e2]
theorem scanShows (p0 : List UInt8) (p1 : Bool) (h0 : p0.length ≤ 1073741824) : F_lecternlaw03_ScanShows p0 p1 = some true := by
  unfold F_lecternlaw03_ScanShows
  rw [awake_t, Option.bind_some, Bool.not_true, cond_false]
  obtain ⟨L, a, e, q1, q2, q3⟩ := all_sp p0 h0
  rw [q1, Option.bind_some]
  dsimp only
  by_cases he : e = 0
  case neg => rw [show (e != 0) = true by simpa using he, cond_true]
  subst he
  rw [show ((0 : Int) != 0) = false from rfl, cond_false]
  have hp : p0.length ≤ 65536 := by
    rcases Nat.lt_or_ge 65536 p0.length with h | h
    · unfold F_scan_All at q1
      rw [decide_eq_true (by omega), cond_true] at q1
      injection Option.some.inj q1 with _ q1
      injection q1 with _ q1
      exact absurd q1 (by decide)
    · exact h
  obtain ⟨ok, tr, ha⟩ := all_ok hp q1
  have hpl := pln_len p0
  have h13 : (13 : UInt8) ∉ pln p0 := lnR_no13 _ _
  have hg := tr_good (by omega) ok h13 tr
  have hL : L.length ≤ 65536 := by have := tr_le tr; omega
  have core : ∀ b : Bool, ((iter (F_lecternlaw03_ScanShows_l0 (L, a, (0 : Int)) [qB b]) FUEL (([] : List UInt8), ([] : List Int), (0 : Int))).bind fun o =>
      match o with
      | (a19, a20) => cond (decide ((65533 : Int) < (a19.length : Int))) (some true) ((F_lecternlaw03_marked a19).bind fun x37 => (F_scan_All x37).bind fun x38 => cond ((x38.2.2 != (0 : Int)) || ((x38.1.length : Int) != (L.length : Int))) (some false)
          ((iter (F_lecternlaw03_ScanShows_l1 (L, a, (0 : Int)) a20 x38) FUEL (0 : Int)).bind fun o => match o with
          | .inl o1 => some true
          | .inr o1 => some o1))) = some true := by
    intro b
    rw [shows_l0 b L a 0 hL hg, Option.bind_some]
    dsimp only
    generalize hS : allW (qB b) (eB b) L = S
    by_cases hl : S.length ≤ 65533
    case neg => rw [decide_eq_true (by omega), cond_true]
    rw [decide_eq_false (by omega), cond_false, marked_eq S (by omega), Option.bind_some]
    obtain ⟨w1, w2⟩ := allW_ok (qpB b).w L fun t ht => (hg t ht).1
    rw [hS] at w1 w2
    obtain ⟨M, m1, m2⟩ := again (qpB b) (by omega) ok h13 tr [] (fun _ _ _ => .inl rfl) (by rw [List.append_nil, hS]; omega)
    rw [List.append_nil, hS] at m1
    have hml : (mrk S).length ≤ 65536 := by
      unfold mrk
      split
      · rw [List.length_append]; show 3 + _ ≤ _; omega
      · omega
    have hA : F_scan_All (mrk S) = some (M, 0, 0) := by
      rw [all_eq (mrk S) hml, pln_mrk w2]
      have hfault : F_char_Fault S = some (0, 0) := by
        rcases fault_iff S (by omega) with ⟨hf, _⟩ | ⟨_, _, _, _, hno, _⟩
        · exact hf
        · exact absurd w1 hno
      rw [hfault, Option.bind_some]
      show cond false _ _ = _
      rw [cond_false]
      exact tr_end (by omega) m1
    rw [hA, Option.bind_some]
    dsimp only
    rw [show ((0 : Int) != 0) = false from rfl, show ((M.length : Int) != (L.length : Int)) = false by rw [m2.1]; exact bne_self_eq_false _, Bool.or_false, cond_false]
    rw [shows_l1 L M a 0 0 0 hL (fun t ht => (hg t ht).2) m2, Option.bind_some]
  simp only [letJ]
  cases p1 with
  | true => exact core true
  | false => exact core false
end Go.Proofs.YtfokkdofcekdbaaDoor
