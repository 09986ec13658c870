/- Characters and names: what the program's functions answer. No condition. -/
import Derived.Test.YtilhbalhkljanaaGreatDoorZ0
set_option linter.unusedSimpArgs false
set_option linter.unusedVariables false
set_option linter.unusedSectionVars false
set_option maxRecDepth 20000
namespace Go.Proofs.YtilhbalhkljanaaGreatDoor
open Go.Lib (decodeL decodeN)
open Go.Lib (decodeL decodeN)
theorem To {U : LB} (hU' : U.length ≤ 65536) (hok : OkT U) (h13 : (13 : UInt8) ∉ U) {i f : Nat} {t t' : Tk} (hi : i + 2 ≤ U.length) (h63 : AF U i [60, 63] = true) (ht : t.Text = []) (h : AI ⟨U, (i : Int)⟩ t = some (0, ⟨U, (f : Int)⟩, t')) :
  Ho t'.Name ∧ JC t'.Name = true ∧ Bl t'.Name [120, 109, 108] = some false ∧ t' = ⟨8, t.At, t'.Name, t.Pairs, t'.Text, t.Refs⟩ ∧ (t'.Text = [] ∨ (L6 t'.Text [63, 62] ∧ OkT t'.Text ∧ (13 : UInt8) ∉ t'.Text ∧ ∀ c x, t'.Text = c :: x → wsP c = false)) := by
 have hU : U.length ≤ 1073741824 := by omega
 unfold AI at h
 dsimp only at h
 rw [w64 (x := (i : Int) + 2) om om, show (i : Int) + 2 = ((i + 2 : Nat) : Int) by omega] at h
 obtain ⟨v, e, j, h1, h2, h3, h4, h5⟩ := En U (i + 2) hi hU
 rw [h1, bS] at h
 dsimp only at h
 by_cases he : e = 0
 case neg =>
  rw [show (e != 0) = true by simpa using he, cT] at h
  exact absurd (Dn h).1 he
 subst he
 have ha : U[i + 2 - 1]? = some 63 := by
  have := DL 1 h63 dc
  simpa using this
 rw [show ((0 : Int) != 0) = false from rfl, cF, Iy, bS] at h
 cases hnm : JC v with
 | false => rw [hnm, bF, cT] at h; exact absurd (Dn h).1 dc
 | true =>
 obtain ⟨r, hr⟩ := Mz v om
 rw [hnm, bT, cF, hr, bS] at h
 cases r with
 | true => rw [cT] at h; exact absurd (Dn h).1 dc
 | false =>
 rw [cF, BP U j _ h3, bS] at h
 cases hh : AF U j [63, 62] with
 | true =>
  rw [hh, cT, BW U _ _ h3 hU, hh, if_pos rfl, bS] at h
  obtain ⟨_, _, g3⟩ := Dn h
  rw [← g3]
  exact ⟨Ii hU' hok h13 hi h1 (CJ hh) dc om ha dc, hnm, hr, rfl, .inl ht⟩
 | false =>
  obtain ⟨s1, s2⟩ := DK wsP U j h3
  rw [hh, cF, AZ U _ j h3 hU, bS] at h
  by_cases hs : sk wsP U j = j
  ·rw [show (((sk wsP U j : Nat) : Int) == (j : Int)) = true by simp [hs], cT] at h
   exact absurd (Dn h).1 dc
  rw [show (((sk wsP U j : Nat) : Int) == (j : Int)) = false by rw [bn]; omega, cF] at h
  obtain ⟨d, d1, d2⟩ := Ly (P := wsP) (s := U) (i := j) (k := j) 0 rfl om
  obtain ⟨a, a1, a2⟩ := Ly (P := wsP) (s := U) (i := j) (k := sk wsP U j - 1) (sk wsP U j - 1 - j) om om
  obtain ⟨e2, k, x, u1, u2, u3⟩ := Gu U (sk wsP U j) 0 ⟨8, t.At, v, t.Pairs, t.Text, t.Refs⟩ [63, 62] (by simp) om hU (by simp)
  rw [show (0 : Int) = ((0 : Nat) : Int) from rfl, u1, bS] at h
  obtain ⟨g1, g2, g3⟩ := Dn h
  subst g1
  obtain ⟨x', R, v1, v2, v3, v4⟩ := JL hU (by simp) (by simp) om u1
  have hx : x = x' := by injection v4
  subst hx
  rw [Nat.add_zero] at v1
  rw [← g3]
  refine ⟨Ii hU' hok h13 hi h1 d1 (Rq d d2) om ha dc, hnm, hr, rfl, .inr ⟨v2, MC hok om a1 (Rq a a2) (by decide : (63 : UInt8).toNat < 128) v1, TO h13 v1, fun c y hc => ?_⟩⟩
  have hc' : x = c :: y := hc
  rw [hc'] at v1
  have hlt := Ps v1
  have := TC (P := wsP) (s := U) (U.length - j) j om hlt
  have hg := Nh v1
  rw [List.getElem?_eq_getElem hlt] at hg
  rw [sj hg] at this
  exact this
theorem Vr {U : LB} (hU : U.length ≤ 1073741824) {i f : Nat} {t t' : Tk} (hi : i + 2 ≤ U.length) (ht : t.Text = []) (h : AI ⟨U, (i : Int)⟩ t = some (0, ⟨U, (f : Int)⟩, t')) : t'.Text.length ≤ U.length := by
 unfold AI at h
 dsimp only at h
 rw [w64 (x := (i : Int) + 2) om om, show (i : Int) + 2 = ((i + 2 : Nat) : Int) by omega] at h
 obtain ⟨v, e, j, h1, h2, h3, h4, h5⟩ := En U (i + 2) hi hU
 rw [h1, bS] at h
 dsimp only at h
 by_cases he : e = 0
 case neg =>
  rw [show (e != 0) = true by simpa using he, cT] at h
  exact absurd (Dn h).1 he
 subst he
 rw [show ((0 : Int) != 0) = false from rfl, cF, Iy, bS] at h
 cases hnm : JC v with
 | false => rw [hnm, bF, cT] at h; exact absurd (Dn h).1 dc
 | true =>
 obtain ⟨r, hr⟩ := Mz v om
 rw [hnm, bT, cF, hr, bS] at h
 cases r with
 | true => rw [cT] at h; exact absurd (Dn h).1 dc
 | false =>
 rw [cF, BP U j _ h3, bS] at h
 cases hh : AF U j [63, 62] with
 | true =>
  rw [hh, cT, BW U _ _ h3 hU, hh, if_pos rfl, bS] at h
  obtain ⟨_, _, g3⟩ := Dn h
  rw [← g3]
  show t.Text.length ≤ _
  rw [ht]; exact Nat.zero_le _
 | false =>
  obtain ⟨s1, s2⟩ := DK wsP U j h3
  rw [hh, cF, AZ U _ j h3 hU, bS] at h
  rcases Ey h with h | h
  ·exact absurd (Dn h).1 dc
  obtain ⟨e2, k, x, u1, u2, u3⟩ := Gu U (sk wsP U j) 0 ⟨8, t.At, v, t.Pairs, t.Text, t.Refs⟩ [63, 62] (by simp) om hU (by simp)
  rw [show (0 : Int) = ((0 : Nat) : Int) from rfl, u1, bS] at h
  obtain ⟨g1, g2, g3⟩ := Dn h
  subst g1
  obtain ⟨x', R, v1, v2, v3, v4⟩ := JL hU (by simp) (by simp) om u1
  have hx : x = x' := by injection v4
  subst hx
  have := congrArg List.length v1
  rw [lD, lA] at this
  rw [← g3]
  show x.length ≤ _
  omega
theorem VV {U : LB} (hU' : U.length ≤ 65536) {i : Nat} (hi : i < U.length) (h60 : U[i]? ≠ some 60) {s : TS} {t : Tk} (h : An ⟨U, (i : Int)⟩ (DC i) = some (0, s, t)) :
    t = ⟨5, (i : Int), [], [], t.Text, t.Refs⟩ ∧ OkT t.Text ∧ t.Text ≠ [] ∧ t.Text.length ≤ 262144 := by
  have hU : U.length ≤ 1073741824 := by omega
  obtain ⟨f, hf⟩ := TB hi h60
  rw [IB (Nat.le_of_lt hi) hU h60, MK hU hf] at h
  unfold LV at h
  obtain ⟨x, x1, h⟩ := Bt h
  obtain ⟨y, y1, h⟩ := Bt h
  injection sj h with g1 h
  injection h with g2 g3
  rw [← g3]
  unfold BD at x1
  obtain ⟨r, r1, r2⟩ := Bt x1
  have r2 := sj r2
  have hl : ((U.drop i).take (f - i)).length ≤ 65536 := by rw [List.length_take, lD]; omega
  have hne : (U.drop i).take (f - i) ≠ [] := fun hh => by
    have := congrArg List.length hh
    rw [List.length_take, lD, lN] at this
    have := hf.lt; omega
  have := O8 om (t := x.1) (n := x.2.1) (show Cz ((U.drop i).take (f - i)) false = _ by rw [r1, ← g1, ← r2])
  exact ⟨rfl, this.1, this.2.1 hne, by have := this.2.2; show x.1.length ≤ _; omega⟩
def plB (b : UInt8) : Bool := ([65, 66, 67, 68, 69, 70, 71, 72, 73, 74, 75, 76, 77, 78, 79, 80, 81, 82, 83, 84, 85, 86, 87, 88, 89, 90, 97, 98, 99, 100, 101, 102, 103, 104, 105, 106, 107, 108, 109, 110, 111, 112, 113, 114, 115, 116, 117, 118, 119, 120, 121, 122, 48, 49, 50, 51, 52, 53, 54, 55, 56, 57, 46, 95, 45] : LB).contains b
inductive DOk : Nat → List TP → LB → LB → Prop
  | done {la} : DOk 3 [] la la
  | skip {k : Nat} {ps la la'} : k < 3 → 0 < k → DOk (k + 1) ps la la' → DOk k ps la la'
  | take {k : Nat} {w v ps la la'} : k < 3 → idx DeclW (k : Int) = some w → E3 w v = some true → v.length ≤ 65536 → DOk (k + 1) ps (if w = [101, 110, 99, 111, 100, 105, 110, 103] then v else la) la' → DOk k (⟨w, v⟩ :: ps) la la'
theorem YF {k : Nat} {w : LB} (h : idx DeclW (k : Int) = some w) (hw : w ≠ [118, 101, 114, 115, 105, 111, 110]) : 0 < k := by
  rcases Nat.eq_zero_or_pos k with rfl | h'
  · have : idx DeclW ((0 : Nat) : Int) = some [118, 101, 114, 115, 105, 111, 110] := rfl
    rw [this] at h
    exact absurd (sj h).symm hw
  · exact h'
theorem IC {U : LB} (hU : U.length ≤ 65536) (At : Int) (Nm Tx : LB) (rf : Int) (jl : Nat) (la' : LB) (ps' : List TP) :
    ∀ (m j k : Nat) (ps : List TP) (la : LB), j ≤ U.length → k ≤ 3 → ps.length ≤ k → iter Ar m (U, (j : Int), (1 : Int), At, Nm, ps, Tx, rf, la, (k : Int)) = some (.inl (U, (jl : Int), la', (1 : Int), At, Nm, ps', Tx, rf)) →
      ∃ rest, ps' = ps ++ rest ∧ DOk k rest la la'
  | 0, j, k, ps, la, _, _, _, h => by cases h
  | m + 1, j, k, ps, la, g2, g3, g5, h => by
    have hUb : U.length ≤ 1073741824 := by omega
    rw [show iter Ar (m + 1) (U, (j : Int), (1 : Int), At, Nm, ps, Tx, rf, la, (k : Int)) = Ar (iter Ar m) (U, (j : Int), (1 : Int), At, Nm, ps, Tx, rf, la, (k : Int)) from rfl] at h
    generalize hI : iter Ar m = I at h
    by_cases hk : k < 3
    case neg =>
      have hkf : decide ((k : Int) < (DeclW.length : Int)) = false := dF (show ¬ (k : Int) < ((3 : Nat) : Int) by omega)
      unfold Ar at h
      dsimp only at h
      rw [hkf, cF] at h
      have h' := Sum.inl.inj (sj h)
      have q2 : la = la' := congrArg (fun x => x.2.2.1) h'
      have q3 : ps = ps' := congrArg (fun x => x.2.2.2.2.2.2.1) h'
      have : k = 3 := by omega
      subst this q2 q3
      exact ⟨[], by rw [List.append_nil], .done⟩
    have hkt : decide ((k : Int) < (DeclW.length : Int)) = true := dT (show (k : Int) < ((3 : Nat) : Int) by omega)
    have hk1 : IntKind.wrap .i64 ((k : Int) + 1) = ((k + 1 : Nat) : Int) := by rw [w64 om om]; omega
    obtain ⟨w, c, hidx, w1, w2, wc, wh, wn⟩ := Q7 k hk
    obtain ⟨s1, s2⟩ := DK wsP U j g2
    unfold Ar at h
    dsimp only at h
    rw [hkt, cT] at h
    simp only [Av] at h
    rw [hidx, bS] at h
    rw [AZ U _ j g2 hUb, bS] at h
    have skip : cond (w == ([118, 101, 114, 115, 105, 111, 110] : LB))
         (some (.inr ((23 : Int), (⟨U, (j : Int)⟩ : TS), (⟨1, At, Nm, ps, Tx, rf⟩ : TK))))
         (I (U, (j : Int), (1 : Int), At, Nm, ps, Tx, rf, la, IntKind.wrap .i64 ((k : Int) + 1))) = some (.inl (U, (jl : Int), la', (1 : Int), At, Nm, ps', Tx, rf)) →
        ∃ rest, ps' = ps ++ rest ∧ DOk k rest la la' := by
      intro hh
      cases hv : w == ([118, 101, 114, 115, 105, 111, 110] : LB) with
      | true => rw [hv, cT] at hh; cases hh
      | false =>
        rw [hv, cF, hk1, ← hI] at hh
        obtain ⟨rest, p1, p2⟩ := IC hU At Nm Tx rf jl la' ps' m j (k + 1) ps la g2 om om hh
        exact ⟨rest, p1, .skip hk (YF hidx (by simpa using hv)) p2⟩
    by_cases c3 : sk wsP U j = j
    · have c3' : (((sk wsP U j : Nat) : Int) == (j : Int)) = true := by simp [c3]
      rw [c3', cT, cT] at h
      exact skip h
    have c3' : (((sk wsP U j : Nat) : Int) == (j : Int)) = false := by rw [bn]; omega
    rw [c3', cF, BU s2, bS, Cr, bS] at h
    cases hh : AF U (sk wsP U j) w with
    | false =>
      have hh' : w.isPrefixOf (U.drop (sk wsP U j)) = false := hh
      rw [hh', bF, cT] at h
      exact skip h
    | true =>
      have hh' : w.isPrefixOf (U.drop (sk wsP U j)) = true := hh
      have hl := AT hh s2
      have hadd : IntKind.wrap .i64 (((sk wsP U j : Nat) : Int) + (w.length : Int)) = ((sk wsP U j + w.length : Nat) : Int) := by rw [w64 om om]; omega
      obtain ⟨e2, k2, q1, q2, q3⟩ := GU U (sk wsP U j + w.length) hl hUb
      rw [hh', bT, cF, hadd, q1, bS] at h
      dsimp only at h
      by_cases ce2 : e2 = 0
      case neg => rw [show (e2 != 0) = true by simpa using ce2, cT] at h; cases h
      subst ce2
      obtain ⟨rv, e3, k3, u1, u2, u3, u4, u5⟩ := FM U k2 q3 hUb
      rw [show ((0 : Int) != 0) = false from rfl, cF, u1, bS] at h
      dsimp only at h
      by_cases ce3 : e3 = 0
      case neg => rw [show (e3 != 0) = true by simpa using ce3, cT, cT] at h; cases h
      subst ce3
      obtain ⟨r, hr, _⟩ := P3 w rv om
      rw [show ((0 : Int) != 0) = false from rfl, cF, hr, bS] at h
      cases r with
      | false => rw [bF, cT] at h; cases h
      | true =>
      rw [bT, cF, Ct so so, bS, bS, hk1] at h
      have go : ∀ la2, I (U, (k3 : Int), (1 : Int), At, Nm, ps ++ [(⟨w, rv⟩ : TP)], Tx, rf, la2, ((k + 1 : Nat) : Int)) = some (.inl (U, (jl : Int), la', (1 : Int), At, Nm, ps', Tx, rf)) → (la2 = if w = [101, 110, 99, 111, 100, 105, 110, 103] then rv else la) →
          ∃ rest, ps' = ps ++ rest ∧ DOk k rest la la' := by
        intro la2 hg hla
        rw [← hI] at hg
        obtain ⟨rest, p1, p3⟩ := IC hU At Nm Tx rf jl la' ps' m k3 (k + 1) _ la2 u3 om so hg
        exact ⟨⟨w, rv⟩ :: rest, by rw [p1]; simp, .take hk hidx hr om (hla ▸ p3)⟩
      cases he : w == ([101, 110, 99, 111, 100, 105, 110, 103] : LB) with
      | true =>
        rw [he, cT] at h
        exact go rv h (by rw [if_pos (eq_of_beq he)])
      | false =>
        rw [he, cF] at h
        exact go la h (by rw [if_neg (by simpa using he)])
structure QP (q : UInt8) (E : UInt8 → LB) : Prop where
  w : QW q E
  pl : ∀ b, plB b = true → E b = [b]
abbrev ZK : LB := [117, 116, 102, 45, 56]
theorem UG {U : LB} (hU' : U.length ≤ 65536) (h5 : 5 ≤ U.length) {s : TS} {t : Tk} (h : BK ⟨U, (0 : Int)⟩ (DC 0) = some (0, s, t)) :
  t = ⟨1, 0, [], t.Pairs, [], 0⟩ ∧ ∃ la, DOk 0 t.Pairs [] la ∧ (la = [] ∨ Bl la ZK = some true) := by
 have hU : U.length ≤ 1073741824 := by omega
 unfold BK at h
 simp only [Av] at h
 obtain ⟨o, e1, e2⟩ := Px U 0 [] [] 0 h5 hU
 rw [e1, bS] at h
 rcases e2 with ⟨j, ps, la, rfl, h1, h2, h3, h7, h4, h6⟩ | ⟨j, t'', rfl, h1⟩
 case inr => injection sj h with h _; exact absurd h dc
 obtain ⟨rest, r1, r2⟩ := IC hU' 0 [] [] 0 j la ps AA 5 0 [] [] h5 om (Nat.le_refl _) e1
 rw [List.nil_append] at r1
 subst r1
 dsimp only at h
 obtain ⟨x, x1, h⟩ := Bt h
 obtain ⟨y, y1, h⟩ := Bt h
 cases hy : y.1 != (0 : Int) with
 | true =>
  rw [hy, cT] at h
  injection sj h with h _
  rw [h] at hy; exact absurd hy dc
 | false =>
 rw [hy, cF] at h
 cases hla : la == ([] : LB) with
 | true =>
  rw [hla, bT, cF, cF] at h
  injection sj h with _ h
  injection h with _ h
  rw [← h]
  exact ⟨rfl, la, r2, .inl (eq_of_beq hla)⟩
 | false =>
  rw [hla, bF, cT] at h
  obtain ⟨r, hr, h⟩ := Bt h
  cases r with
  | false => rw [bF, cT] at h; injection sj h with h _; exact absurd h dc
  | true =>
   rw [bT, cF] at h
   injection sj h with _ h
   injection h with _ h
   rw [← h]
   exact ⟨rfl, la, r2, .inr hr⟩
def W7 (t : Tk) : Prop :=
 (t.Kind = 1 ∧ t.Name = [] ∧ t.Text = [] ∧ ∃ la, DOk 0 t.Pairs [] la ∧ (la = [] ∨ Bl la ZK = some true)) ∨
 ((t.Kind = 2 ∨ t.Kind = 4) ∧ Ho t.Name ∧ KG t.Pairs ∧ (nmP t.Pairs).Nodup ∧ t.Text = []) ∨
 (t.Kind = 3 ∧ Ho t.Name ∧ t.Pairs = [] ∧ t.Text = []) ∨
 (t.Kind = 5 ∧ t.Name = [] ∧ t.Pairs = [] ∧ OkT t.Text ∧ t.Text ≠ [] ∧ t.Text.length ≤ 262144) ∨
 (t.Kind = 6 ∧ t.Name = [] ∧ t.Pairs = [] ∧ L6 t.Text [93, 93, 62] ∧ OkT t.Text ∧ (13 : UInt8) ∉ t.Text ∧ t.Text.length ≤ 65536) ∨
 (t.Kind = 7 ∧ t.Name = [] ∧ t.Pairs = [] ∧ L6 t.Text [45, 45] ∧ OkT t.Text ∧ (13 : UInt8) ∉ t.Text ∧ t.Text.length ≤ 65536) ∨
 (t.Kind = 8 ∧ Ho t.Name ∧ t.Pairs = [] ∧ JC t.Name = true ∧ Bl t.Name [120, 109, 108] = some false ∧ t.Text.length ≤ 65536 ∧ (t.Text = [] ∨ (L6 t.Text [63, 62] ∧ OkT t.Text ∧ (13 : UInt8) ∉ t.Text ∧ ∀ c x, t.Text = c :: x → wsP c = false)))
theorem Ob {U : LB} (hU : U.length ≤ 65536) (hok : OkT U) (h13 : (13 : UInt8) ∉ U) {i f : Nat} {t : Tk} (hi : i < U.length) (h : An ⟨U, (i : Int)⟩ (DC i) = some (0, ⟨U, (f : Int)⟩, t)) (hT : I2 U i t f) (hf : f ≤ U.length) : W7 t ∧ (t.Kind = 1 → i = 0) ∧ (t.Kind = 5 → U[i]? ≠ some 60) ∧ (t.Kind ≠ 5 → U[i]? = some 60) := by
 have hUb : U.length ≤ 1073741824 := by omega
 refine ⟨?_, hT.dec, fun h => (hT.txt h).1, hT.oth⟩
 by_cases h60 : U[i]? = some 60
 case neg =>
  obtain ⟨g1, g2, g3, g4⟩ := VV hU hi h60 h
  refine .inr (.inr (.inr (.inl ⟨?_, ?_, ?_, g2, g3, g4⟩))) <;> rw [g1]
 have he := F6 U i (Nat.le_of_lt hi) hUb
 rw [he] at h
 cases hd : Fh U i with
 | true =>
  rw [hd, cT] at h
  unfold Fh at hd
  rw [Bool.and_eq_true, Bool.and_eq_true] at hd
  have h5 := AT hd.2.1 (Nat.zero_le _)
  obtain ⟨g1, la, g2, g3⟩ := UG hU (by simpa using h5) h
  refine .inl ⟨?_, ?_, ?_, la, g2, g3⟩ <;> rw [g1]
 | false =>
 rw [hd, cF] at h
 unfold Ft at h
 cases c1 : AF U i [60, 33, 45, 45] with
 | true =>
  have hl := AT c1 (Nat.le_of_lt hi)
  rw [c1, cT] at h
  obtain ⟨e2, k, x, u1, u2, u3⟩ := Gu U i 4 (Ni 7 i) [45, 45] (by simp) (by simpa using hl) hUb (by simp)
  rw [show (4 : Int) = ((4 : Nat) : Int) from rfl, u1, bS] at h
  dsimp only at h
  by_cases ce : e2 = 0
  case neg =>
   rw [show (e2 != 0) = true by simpa using ce, cT] at h
   injection sj h with h _; exact absurd h ce
  subst ce
  obtain ⟨x', R, v1, v2, v3, v4⟩ := JL hUb (by simp) (by simp) (by simpa using hl) u1
  have hx : x = x' := by injection v4
  subst hx
  rw [show ((0 : Int) != 0) = false from rfl, cF] at h
  obtain ⟨y, y1, h⟩ := Bt h
  injection sj h with _ h
  injection h with _ h
  have ha : U[i + 4 - 1]? = some 45 := by
   have := DL 3 c1 dc
   simpa using this
  have hlx : x.length ≤ 65536 := by
   have := congrArg List.length v1
   rw [lD, lA] at this; omega
  rw [← h]
  exact .inr (.inr (.inr (.inr (.inr (.inl ⟨rfl, rfl, rfl, v2, MC hok om ha dc (by decide : (45 : UInt8).toNat < 128) v1, TO h13 v1, hlx⟩)))))
 | false =>
 rw [c1, cF] at h
 cases c3 : AF U i [60, 33, 91, 67, 68, 65, 84, 65, 91] with
 | true =>
  have hl := AT c3 (Nat.le_of_lt hi)
  rw [c3, cT, show (9 : Int) = ((9 : Nat) : Int) from rfl] at h
  obtain ⟨x, R, v1, v2, v3, v4⟩ := JL hUb (by simp) (by simp) (by simpa using hl) h
  have ha : U[i + 9 - 1]? = some 91 := by
   have := DL 8 c3 dc
   simpa using this
  have hlx : x.length ≤ 65536 := by
   have := congrArg List.length v1
   rw [lD, lA] at this; omega
  rw [v4]
  exact .inr (.inr (.inr (.inr (.inl ⟨rfl, rfl, rfl, v2, MC hok om ha dc (by decide : (93 : UInt8).toNat < 128) v1, TO h13 v1, hlx⟩))))
 | false =>
 rw [c3, cF] at h
 cases c4 : AF U i [60, 33, 68, 79, 67, 84, 89, 80, 69] with
 | true =>
  rw [c4, cT] at h
  injection sj h with h _
  exact absurd h dc
 | false =>
 rw [c4, cF] at h
 cases c5 : AF U i [60, 33] with
 | true =>
  rw [c5, cT] at h
  injection sj h with h _
  exact absurd h dc
 | false =>
 rw [c5, cF] at h
 cases c6 : AF U i [60, 63] with
 | true =>
  have hl := AT c6 (Nat.le_of_lt hi)
  rw [c6, cT] at h
  obtain ⟨g1, g2, g3, g4, g5⟩ := To hU hok h13 (by simpa using hl) c6 rfl h
  refine .inr (.inr (.inr (.inr (.inr (.inr ⟨by rw [g4], g1, by rw [g4], g2, g3, ?_, g5⟩)))))
  have hin := Vr hUb (by simpa using hl) rfl h
  omega
 | false =>
 rw [c6, cF] at h
 cases c7 : AF U i [60, 47] with
 | true =>
  have hl := AT c7 (Nat.le_of_lt hi)
  rw [c7, cT] at h
  obtain ⟨g1, g2⟩ := Pr hU hok h13 (by simpa using hl) c7 h
  refine .inr (.inr (.inl ⟨by rw [g2], g1, by rw [g2], by rw [g2]⟩))
 | false =>
 rw [c7, cF, show AF U i [60] = true by rw [Ig, h60]; simp, cT] at h
 obtain ⟨g1, g2, g3⟩ := Xy hU hok h13 om h60 rfl h
 refine .inr (.inl ⟨?_, g1, g2, hT.nd, ?_⟩)
 ·rcases g3 with g3 | g3
  ·left; rw [g3]
  ·right; rw [g3]
 ·rcases g3 with g3 | g3 <;> rw [g3]
def shw (q : UInt8) (E : UInt8 → LB) (t : Tk) : LB :=
 if t.Kind = 1 then [60, 63, 120, 109, 108] ++ (shP q E t.Pairs ++ [63, 62])
 else if t.Kind = 2 then 60 :: (t.Name ++ (shP q E t.Pairs ++ [62]))
 else if t.Kind = 4 then 60 :: (t.Name ++ (shP q E t.Pairs ++ [47, 62]))
 else if t.Kind = 3 then 60 :: 47 :: (t.Name ++ [62])
 else if t.Kind = 5 then t.Text.flatMap txE
 else if t.Kind = 6 then [60, 33, 91, 67, 68, 65, 84, 65, 91] ++ (t.Text ++ [93, 93, 62])
 else if t.Kind = 7 then [60, 33, 45, 45] ++ (t.Text ++ [45, 45, 62])
 else if t.Text = [] then 60 :: 63 :: (t.Name ++ [63, 62])
 else 60 :: 63 :: (t.Name ++ 32 :: (t.Text ++ [63, 62]))
theorem Rx {U r w : LB} {i : Nat} (h : U.drop i = w ++ r) : AF U i w = true := by
 unfold AF; rw [h, List.isPrefixOf_iff_prefix]; exact ⟨r, rfl⟩
theorem XY {U r : LB} {i : Nat} {c d : UInt8} (h : U.drop i = c :: d :: r) (a e : UInt8) (w : LB) (he : e ≠ d) : AF U i (a :: e :: w) = false := by
 unfold AF; rw [h]; simp [List.isPrefixOf, he]
theorem T6 {U r : LB} {i : Nat} {d : UInt8} (h : U.drop i = 60 :: d :: r) (hd : d ≠ 63) : Fh U i = false := by
 unfold Fh
 by_cases h0 : i = 0
 ·subst h0; rw [XY h 60 63 _ (Ne.symm hd), Bool.false_and, Bool.and_false]
 ·rw [dF h0, Bool.false_and]
def qB (b : Bool) : UInt8 := if b then 39 else 34
def eB (b : Bool) : UInt8 → LB := if b then apE else quE
def eK (q : UInt8) (E : UInt8 → LB) (L : List Tk) : LB := L.flatMap (shw q E)
def fP (q : UInt8) (E : UInt8 → LB) (L M : List Tk) : Prop := M.length = L.length ∧ ∀ (k : Nat) (t : Tk), L[k]? = some t → ∃ n, M[k]? = some ⟨t.Kind, ((eK q E (L.take k)).length : Int), t.Name, t.Pairs, t.Text, n⟩
abbrev Nd := Ac
abbrev Op := Af
abbrev Rdr := AD
def nd0 : Nd := ⟨0, ⟨[], []⟩, [], [], []⟩
def kid (b : Op) (n : Nd) : Op := ⟨⟨b.node.Kind, b.node.Name, b.node.Attrs, b.node.Kids ++ [n], b.node.Text⟩, b.raw, b.in_⟩
theorem XD {α : Type} {a : α} {l : List α} {n : Nat} (hn : n = l.length + 1) (h : l.length ≤ 1073741824) : Iz (a :: l) (IntKind.wrap .i64 ((n : Int) - 1)) = some (a, l) := by
 subst hn
 unfold Iz
 rw [w64 om om, if_pos (by simp)]
theorem Gr {α : Type} {a : α} {l : List α} (h : l.length ≤ 1073741824) : Iz (a :: l) (IntKind.wrap .i64 (((a :: l).length : Int) - 1)) = some (a, l) := XD (by simp) h
theorem Lf {a b : Op} {l : List Op} {n : Int} {d : Bool} (hl : l.length ≤ 1000000) (hk : b.node.Kids.length ≤ 1000000000) :
  Ba ⟨a :: b :: l, n, d⟩ = some ⟨kid b a.node :: l, n, d || decide (l.length = 0)⟩ := by
 unfold Ba
 dsimp only
 rw [Gr so, bS, bS]
 dsimp only
 rw [Gr om, bS, Ct (by simp only [lC, lN]; omega) (by simp only [lC, lN]; omega), bS, bS]
 simp only [Av]
 cases d with
 | true => rfl
 | false =>
  rw [cF]
  have : (((b :: l).length : Int) == 1) = decide (l.length = 0) := by
   rw [Bool.eq_iff_iff, beq_iff_eq, decide_eq_true_eq, lC]; omega
  rw [this]; rfl
theorem Lv {b : Op} {l : List Op} {n : Int} {d : Bool} (x : Nd) (hl : l.length ≤ 1000000) (hk : b.node.Kids.length ≤ 1000000000) (h0 : 0 ≤ n) (h1 : n ≤ 1000000000) :
  A0 ⟨b :: l, n, d⟩ x = some (if 8192 < x.Text.length then (5, ⟨b :: l, n, d⟩) else (0, ⟨kid b x :: l, n + 1, d⟩)) := by
 unfold A0
 dsimp only
 by_cases h : 8192 < x.Text.length
 ·rw [dT om, cT, if_pos h]
 ·rw [dF om, cF, if_neg h, Gr om, bS, Ct (by simp only [lC, lN]; omega) (by simp only [lC, lN]; omega), bS, bS, w64 om om]
  rfl
def fR (b : Op) (s : LB) : Op := match b.node.Kids.getLast? with
 | some x => ⟨⟨b.node.Kind, b.node.Name, b.node.Attrs, b.node.Kids.dropLast ++ [⟨x.Kind, x.Name, x.Attrs, x.Kids, x.Text ++ s⟩], b.node.Text⟩, b.raw, b.in_⟩
 | none => b
def fv (b : Op) : Option LB := match b.node.Kids.getLast? with
 | some x => if x.Kind = 3 then some x.Text else none
 | none => none
def UH (l : List Ab) : Bool := l.any fun a => decide (64 < l.length) || decide (8192 < a.Value.length)
theorem WF (r : Rdr) (x : List Ab × Int) (hx : x.1.length ≤ 1000000000) : iter (BZ r x) AA (0 : Int) = some (if UH x.1 then .inr (5, r) else .inl ()) := by
 obtain ⟨l, e⟩ := x
 dsimp only at hx ⊢
 obtain ⟨o, e1, e2⟩ := CA (b := BZ r (l, e)) (fun i x => x = (i : Int) ∧ ∀ j (hj : j < l.length), j < i → (decide (64 < l.length) || decide (8192 < l[j].Value.length)) = false) (fun o => o = (if UH l then .inr (5, r) else .inl ())) l.length (x0 := (0 : Int)) ⟨rfl, fun j _ h => by omega⟩ (by
  rintro i _ rec hi ⟨rfl, hs⟩
  by_cases hb : (decide (64 < l.length) || decide (8192 < l[i].Value.length)) = true
  ·right
   have hbig : UH l = true := List.any_eq_true.2 ⟨_, List.getElem_mem hi, hb⟩
   rw [hbig]
   refine ⟨.inr (5, r), ?_, rfl⟩
   unfold BZ
   dsimp only
   rw [dT om, cT, Bw hi, bS]
   have : (decide ((64 : Int) < (l.length : Int)) || decide ((8192 : Int) < (l[i].Value.length : Int))) = true := by
    rw [← hb]; congr 1 <;> (rw [decide_eq_decide]; omega)
   rw [this, cT]
  ·left
   replace hb := Bool.eq_false_iff.2 hb
   refine ⟨((i + 1 : Nat) : Int), ?_, rfl, fun j hj h => ?_⟩
   ·unfold BZ
    dsimp only
    rw [dT om, cT, Bw hi, bS]
    have : (decide ((64 : Int) < (l.length : Int)) || decide ((8192 : Int) < (l[i].Value.length : Int))) = false := by
     rw [← hb]; congr 1 <;> (rw [decide_eq_decide]; omega)
    rw [this, cF, w64 om om]
    rfl
   ·rcases Nat.lt_or_ge j i with h1 | h1
    ·exact hs j hj h1
    ·have : j = i := by omega
     subst this; exact hb) (by
  rintro _ rec ⟨rfl, hs⟩
  have hbig : UH l = false := by
   refine Bool.eq_false_iff.2 fun h => ?_
   obtain ⟨a, ha, hb⟩ := List.any_eq_true.1 h
   obtain ⟨j, hj, rfl⟩ := List.getElem_of_mem ha
   exact absurd hb (by rw [hs j hj hj]; simp)
  rw [hbig]
  refine ⟨.inl (), ?_, rfl⟩
  unfold BZ
  dsimp only
  rw [dF om, cF]) (n := AA) (by unfold AA; omega)
 rw [e1, e2]
def ec (a : Op) (l : List Op) (n : Int) (d : Bool) (t : Tk) : Option (Int × Rdr) :=
 if l.length = 0 ∧ d = true then some (30, ⟨a :: l, n, d⟩)
 else if 32 < l.length then some (31, ⟨a :: l, n, d⟩)
 else (CD a.in_ t.Pairs).bind fun o => if o.2 ≠ 0 then some (o.2, ⟨a :: l, n, d⟩)
  else (Cg ⟨o.1.binds⟩ t.Name).bind fun q => if q.2 ≠ 0 then some (q.2, ⟨a :: l, n, d⟩)
   else (CQ ⟨o.1.binds⟩ t.Pairs).bind fun v => if v.2 ≠ 0 then some (v.2, ⟨a :: l, n, d⟩)
    else if UH v.1 = true then some (5, ⟨a :: l, n, d⟩) else if v.1.length ≤ 1000000000 then some (0, ⟨⟨⟨2, q.1, v.1, [], []⟩, t.Name, ⟨o.1.binds⟩⟩ :: a :: l, n + 1, d⟩) else AE ⟨a :: l, n, d⟩ t
theorem O9 {a : Op} {l : List Op} {n : Int} {d : Bool} (t : Tk) (hl : l.length ≤ 1000000) (c1 : ¬ (l.length = 0 ∧ d = true)) :
  AE ⟨a :: l, n, d⟩ t = (cond (decide ((32 : Int) < (l.length : Int))) (some ((31 : Int), (⟨a :: l, n, d⟩ : Rdr)))
   ((CD a.in_ t.Pairs).bind fun o => cond (o.2 != (0 : Int)) (some (o.2, ⟨a :: l, n, d⟩))
    ((Cg ⟨o.1.binds⟩ t.Name).bind fun q => cond (q.2 != (0 : Int)) (some (q.2, ⟨a :: l, n, d⟩))
     ((CQ ⟨o.1.binds⟩ t.Pairs).bind fun v => cond (v.2 != (0 : Int)) (some (v.2, ⟨a :: l, n, d⟩))
      ((iter (BZ ⟨a :: l, n, d⟩ v) AA (0 : Int)).bind fun w => match w with
       | .inl _ => (app 144 (a :: l) [(⟨⟨2, q.1, v.1, [], []⟩, t.Name, ⟨o.1.binds⟩⟩ : Op)]).bind fun _ => some ((0 : Int), (⟨⟨⟨2, q.1, v.1, [], []⟩, t.Name, ⟨o.1.binds⟩⟩ :: a :: l, IntKind.wrap .i64 (n + 1), d⟩ : Rdr))
       | .inr x => some x))))) := by
 unfold AE
 simp only [Av]
 have e1 : (IntKind.wrap .i64 (((a :: l).length : Int) - 1)) = (l.length : Int) := by
  rw [lC, w64 om om]; omega
 have e2 : (cond (((a :: l).length : Int) == 1) d false) = false := by
  cases d with
  | false => cases (((a :: l).length : Int) == 1) <;> rfl
  | true =>
   have : (((a :: l).length : Int) == 1) = false := by
    refine Bool.eq_false_iff.2 fun h => c1 ⟨?_, rfl⟩
    simp at h; omega
   rw [this]; rfl
 cases hc : (((a :: l).length : Int) == 1) with
 | true =>
  rw [hc] at e2
  rw [cT] at e2 ⊢
  subst e2
  rw [cF, Gr om, bS, e1]; rfl
 | false => rw [cF, cF, Gr om, bS, e1]; rfl
inductive Row : List Tk → Prop
 | nil : Row []
 | snoc {L : List Tk} {t : Tk} : Row L → W7 t → (t.Kind = 1 → L = []) → (t.Kind = 5 → ∀ u, L.getLast? = some u → u.Kind ≠ 5) → Row (L ++ [t])
theorem Row.good {L : List Tk} (h : Row L) : ∀ t ∈ L, W7 t := by
 induction h with
 | nil => intro t h; simp at h
 | snoc _ h2 _ _ ih =>
  intro t ht
  rcases List.mem_append.1 ht with h | h
  ·exact ih t h
  ·rw [List.mem_singleton.1 h]; exact h2
theorem Pl {w : LB} {c : UInt8} {r : LB} (h : w = c :: r) (hc : c ≠ 239) : IW w = w := by
 subst h
 unfold IW
 rw [if_neg (by intro h; simp only [bom, List.isPrefixOf, Bool.and_eq_true, beq_iff_eq] at h; exact hc h.1.symm)]
def ET : List Tk → Rdr → Option (Rdr ⊕ (Int × Int))
 | [], r => some (.inl r)
 | t :: L, r => (Au r t).bind fun x => if x.1 ≠ 0 then some (.inr (t.At, x.1)) else ET L x.2
def r0 : Rdr := ⟨[⟨⟨1, ⟨[], []⟩, [], [], []⟩, [], ⟨[]⟩⟩], 0, false⟩
def Xh (p : LB) (r : Rdr) : Option (Nd × Int × Int) :=
 cond (decide ((1 : Int) < (r.open_.length : Int))) ((Cl p).bind fun x => some (nd0, (x.length : Int), 26))
  (cond (!r.done) ((Cl p).bind fun x => some (nd0, (x.length : Int), 30)) ((Iz r.open_ (0 : Int)).bind fun x => some (x.1.node, 0, 0)))
theorem Xp (M : List Tk) (a e : Int) (hM : M.length ≤ 1073741824) : ∀ (L L0 : List Tk) (r : Rdr) (m : Nat), M = L0 ++ L → L.length < m →
  iter (Du (M, a, e)) m ((0 : Int), ([] : LB), ([] : LB), ([] : List Ab), ([] : List Ac), ([] : LB), r.open_, r.nodes, r.done, (L0.length : Int)) =
   (ET L r).bind fun o => match o with
    | .inl r' => some (.inl ((0 : Int), ([] : LB), ([] : LB), ([] : List Ab), ([] : List Ac), ([] : LB), r'.open_, r'.nodes, r'.done))
    | .inr (x, y) => some (.inr (nd0, x, y))
 | [], L0, r, m + 1, h, hm => by
  subst h
  rw [List.append_nil]
  show Du _ _ _ = _
  unfold Du
  dsimp only
  rw [dF om, cF]; rfl
 | t :: L, L0, r, m + 1, h, hm => by
  have hlt : L0.length < M.length := by rw [h]; simp
  have hg : M[L0.length] = t := by subst h; simp
  have ih := Xp M a e hM L (L0 ++ [t])
  show Du _ _ _ = _
  unfold Du
  dsimp only
  rw [dT om, cT, Bw hlt, bS, hg]
  unfold ET
  have er : (⟨r.open_, r.nodes, r.done⟩ : Rdr) = r := rfl
  rw [er]
  cases ht : Au r t with
  | none => rfl
  | some x =>
   rw [bS, bS]
   by_cases hx : x.1 = 0
   ·rw [show (x.1 != (0 : Int)) = false by simpa using hx, cF, if_neg (by simpa using hx), w64 om om]
    have := ih x.2 m (by rw [h]; simp) (by simp at hm; omega)
    rw [lA, List.length_singleton, Int.natCast_add] at this
    exact this
   ·rw [show (x.1 != (0 : Int)) = true by simpa using hx, cT, if_pos hx]; rfl
 | [], _, _, 0, _, hm => by omega
 | _ :: _, _, _, 0, _, hm => by omega
theorem NU {p : LB} {M : List Tk} {a : Int} (h : Dt p = some (M, a, 0)) (hM : M.length ≤ 1073741824) :
  A5 p = (ET M r0).bind fun o => match o with
   | .inl r => Xh p r
   | .inr (x, y) => some (nd0, x, y) := by
 unfold A5
 rw [h, bS]
 dsimp only
 rw [show ((0 : Int) != 0) = false from rfl, cF, show HJ = some ⟨[]⟩ from rfl, bS]
 have := Xp M a 0 hM M [] r0 AA rfl (by unfold AA; omega)
 simp only [Av]
 rw [show ((([] : List Tk).length : Nat) : Int) = 0 from rfl] at this
 have e0 : r0.open_ = [(⟨(⟨(1 : Int), (⟨([] : LB), ([] : LB)⟩ : Am), ([] : List Ab), ([] : List Ac), ([] : LB)⟩ : Ac), ([] : LB), (⟨[]⟩ : Ao)⟩ : Af)] := rfl
 have e1 : r0.nodes = 0 := rfl
 have e2 : r0.done = false := rfl
 rw [e0, e1, e2] at this
 rw [this]
 cases ET M r0 with
 | none => rfl
 | some o =>
  rw [bS, bS]
  cases o with
  | inl r => rfl
  | inr x => rfl
def fin (x : Int × Rdr) : Int × Rdr := if x.1 = 0 ∧ 2000 < x.2.nodes then (5, x.2) else x
theorem Ki (x : Int × Rdr) : (Av (fun v : Bool => cond v (some ((5 : Int), x.2)) (some (x.1, x.2))) fun J => cond (x.1 == (0 : Int)) (J (decide ((2000 : Int) < x.2.nodes))) (J false)) = some (fin x) := by
 obtain ⟨e, r⟩ := x
 simp only [Av, fin]
 by_cases he : e = 0
 ·subst he
  rw [beq_self_eq_true, cT]
  by_cases hn : 2000 < r.nodes
  ·rw [dT hn, cT, if_pos ⟨rfl, hn⟩]
  ·rw [dF hn, cF, if_neg (fun h => hn h.2)]
 ·rw [show (e == 0) = false by simpa using he, cF, cF, if_neg (fun h => he h.1)]
section
variable {r : Rdr} {t : Tk}
theorem Yo (h : t.Kind = 2) : Au r t = (AE r t).bind fun x => some (fin x) := by
 unfold Au
 rw [h, show ((2 : Int) == 7) = false from rfl, show ((2 : Int) == 8) = false from rfl, show ((2 : Int) == 5) = false from rfl, show ((2 : Int) == 6) = false from rfl, beq_self_eq_true, cF, cF, cF, cF, cT]
 cases AE r t with
 | none => rfl
 | some x => exact Ki x
theorem Tb (h : t.Kind = 4) : Au r t = (AE r t).bind fun x => if x.1 = 0 then (Ba x.2).bind fun y => some (fin (0, y)) else some x := by
 unfold Au
 rw [h, show ((4 : Int) == 7) = false from rfl, show ((4 : Int) == 8) = false from rfl, show ((4 : Int) == 5) = false from rfl, show ((4 : Int) == 6) = false from rfl, show ((4 : Int) == 2) = false from rfl, beq_self_eq_true, cF, cF, cF, cF, cF, cT]
 cases AE r t with
 | none => rfl
 | some x =>
  rw [bS, bS]
  by_cases hx : x.1 = 0
  ·rw [if_pos hx, show (x.1 == 0) = true by simpa using hx, cT]
   cases Ba x.2 with
   | none => rfl
   | some y =>
    rw [bS, bS, hx]
    unfold fin
    by_cases hn : 2000 < y.nodes
    ·rw [dT hn, cT, if_pos ⟨rfl, hn⟩]
    ·rw [dF hn, cF, if_neg (fun h => hn h.2)]
  ·rw [if_neg hx, show (x.1 == 0) = false by simpa using hx, cF]
theorem WZ (h : t.Kind = 3) : Au r t = if r.open_.length = 1 then some (26, r) else (Iz r.open_ (IntKind.wrap .i64 ((r.open_.length : Int) - 1))).bind fun v => if v.1.raw = t.Name then (Ba r).bind fun y => some (fin (0, y)) else some (26, r) := by
 unfold Au
 rw [h, show ((3 : Int) == 7) = false from rfl, show ((3 : Int) == 8) = false from rfl, show ((3 : Int) == 5) = false from rfl, show ((3 : Int) == 6) = false from rfl, show ((3 : Int) == 2) = false from rfl, show ((3 : Int) == 4) = false from rfl, beq_self_eq_true, cF, cF, cF, cF, cF, cF, cT]
 by_cases h1 : r.open_.length = 1
 ·rw [if_pos h1, h1]; rfl
 ·rw [if_neg h1, show ((r.open_.length : Int) == 1) = false by rw [bn]; omega, cF]
  cases Iz r.open_ (IntKind.wrap .i64 ((r.open_.length : Int) - 1)) with
  | none => rfl
  | some v =>
   rw [bS, bS]
   by_cases hv : v.1.raw = t.Name
   ·rw [if_pos hv, show (v.1.raw == t.Name) = true by simpa using hv, bT, cF]
    cases Ba r with
    | none => rfl
    | some y => exact Ki (0, y)
   ·rw [if_neg hv, show (v.1.raw == t.Name) = false by simpa using hv, bF, cT]
theorem Pz (h : t.Kind = 7) : Au r t = (A0 r ⟨4, ⟨[], []⟩, [], [], t.Text⟩).bind fun x => some (fin x) := by
 unfold Au
 rw [h, beq_self_eq_true, cT]
 cases A0 r ⟨4, ⟨[], []⟩, [], [], t.Text⟩ with
 | none => rfl
 | some x => exact Ki x
theorem Yd (h : t.Kind = 8) : Au r t = (A0 r ⟨5, ⟨[], t.Name⟩, [], [], t.Text⟩).bind fun x => some (fin x) := by
 unfold Au
 rw [h, show ((8 : Int) == 7) = false from rfl, beq_self_eq_true, cF, cT]
 cases A0 r ⟨5, ⟨[], t.Name⟩, [], [], t.Text⟩ with
 | none => rfl
 | some x => exact Ki x
theorem IF (h : t.Kind = 5 ∨ t.Kind = 6) : Au r t = (AN r t).bind fun x => some (fin x) := by
 unfold Au
 rcases h with h | h
 ·rw [h, show ((5 : Int) == 7) = false from rfl, show ((5 : Int) == 8) = false from rfl, beq_self_eq_true, cF, cF, cT]
  cases AN r t with
  | none => rfl
  | some x => exact Ki x
 ·rw [h, show ((6 : Int) == 7) = false from rfl, show ((6 : Int) == 8) = false from rfl, show ((6 : Int) == 5) = false from rfl, beq_self_eq_true, cF, cF, cF, cT]
  cases AN r t with
  | none => rfl
  | some x => exact Ki x
theorem Th (h : t.Kind = 1) : Au r t = some (fin (0, r)) := by
 unfold Au
 rw [h, show ((1 : Int) == 7) = false from rfl, show ((1 : Int) == 8) = false from rfl, show ((1 : Int) == 5) = false from rfl, show ((1 : Int) == 6) = false from rfl, show ((1 : Int) == 2) = false from rfl, show ((1 : Int) == 4) = false from rfl, show ((1 : Int) == 3) = false from rfl, cF, cF, cF, cF, cF, cF, cF]
 exact Ki (0, r)
end
def el (nm : LB) : Op := ⟨⟨2, ⟨[], nm⟩, [], [], []⟩, nm, ⟨[]⟩⟩
def eU : Op := ⟨⟨1, ⟨[], []⟩, [], [], []⟩, [], ⟨[]⟩⟩
def elA : Op := el [97]
def du (k : Nat) : List Op := List.replicate k elA ++ [eU]
theorem P7 {r : Rdr} (h : r.nodes ≤ 2000) : fin (0, r) = (0, r) := by unfold fin; rw [if_neg (fun h => by have := h.2; dsimp only at this; omega)]
theorem P0 {r : Rdr} (h : 2000 < r.nodes) : fin (0, r) = (5, r) := by unfold fin; rw [if_pos ⟨rfl, h⟩]
def IsO (nm : LB) (k : Int) (t : Tk) : Prop := t.Kind = k ∧ t.Name = nm ∧ t.Pairs = []
def nst : Nat → Nd
 | 0 => ⟨2, ⟨[], [97]⟩, [], [], []⟩
 | j + 1 => ⟨2, ⟨[], [97]⟩, [], [nst j], []⟩
def eh (x : Nd) : List Op → List Op
 | [] => []
 | a :: l => kid a x :: l
def cs (n k : Nat) : List Op := match n - k with
 | 0 => du k
 | j + 1 => eh (nst j) (du k)
def kb (i : Nat) : Op := ⟨⟨2, ⟨[], [97]⟩, [], List.replicate i (el [98]).node, []⟩, [97], ⟨[]⟩⟩
def oA : Tk := ⟨2, 0, [97], [], [], 0⟩
def cA : Tk := ⟨3, 0, [97], [], [], 0⟩
def lB : Tk := ⟨4, 0, [98], [], [], 0⟩
def ltr (c : UInt8) : Prop := c.toNat < 128 ∧ (∀ i k, HZ i k (c.toNat : Int) = false) ∧ CH [c] = some ([], [c], true) ∧ c ≠ 33 ∧ c ≠ 63 ∧ c ≠ 47
def Rel (L M : List Tk) : Prop := ∀ (k : Nat) (t : Tk), L[k]? = some t → ∃ u, M[k]? = some u ∧ IsO t.Name t.Kind u
def SA (w : LB) (n : Nat) : LB := (List.replicate n w).flatten
def wO : LB := [60, 97, 62]
def wC : LB := [60, 47, 97, 62]
def wL : LB := [60, 98, 47, 62]
def txN (s : LB) : Nd := ⟨3, ⟨[], []⟩, [], [], s⟩
def setK (b : Op) (k : List Nd) : Op := ⟨⟨b.node.Kind, b.node.Name, b.node.Attrs, k, b.node.Text⟩, b.raw, b.in_⟩
theorem PV {α : Type} {k : List α} {x : α} (h : k.length ≤ 1000000000) : idx (k ++ [x]) (IntKind.wrap .i64 (((k ++ [x]).length : Int) - 1)) = some x ∧ (IntKind.wrap .i64 (((k ++ [x]).length : Int) - 1)).toNat = k.length ∧ ¬ IntKind.wrap .i64 (((k ++ [x]).length : Int) - 1) < 0 := by
 have e : IntKind.wrap .i64 (((k ++ [x]).length : Int) - 1) = (k.length : Int) := by
  rw [lA, List.length_singleton, w64 om om]; omega
 rw [e]
 refine ⟨?_, Int.toNat_natCast _, by omega⟩
 rw [Bw (by simp)]; simp
theorem NA {b c : Op} {l : List Op} {n : Int} {d : Bool} {t : Tk} (hl : l.length ≤ 1000000) (h : t.Text = []) : AN ⟨b :: c :: l, n, d⟩ t = some (0, ⟨b :: c :: l, n, d⟩) := by
 unfold AN
 dsimp only
 rw [show (((b :: c :: l).length : Int) == 1) = false by rw [bn]; simp only [lC]; omega, cF, Gr (by simp only [lC]; omega), bS, h]
 rfl
theorem KS {b c : Op} {l : List Op} {n : Int} {d : Bool} {t : Tk} (hl : l.length ≤ 100000) (hk : b.node.Kids.length ≤ 1000000000) (h0 : 0 ≤ n) (h1 : n ≤ 1000000000) (h : t.Text ≠ []) (hx : ∀ x, b.node.Kids.getLast? = some x → x.Kind ≠ 3) :
  AN ⟨b :: c :: l, n, d⟩ t = some (if 8192 < t.Text.length then (5, ⟨b :: c :: l, n, d⟩) else (0, ⟨kid b (txN t.Text) :: c :: l, n + 1, d⟩)) := by
 have hp := Lv (b := b) (l := c :: l) (n := n) (d := d) (txN t.Text) (by simp only [lC]; omega) hk h0 h1
 unfold AN
 dsimp only
 rw [show (((b :: c :: l).length : Int) == 1) = false by rw [bn]; simp only [lC]; omega, cF, Gr (by simp only [lC]; omega), bS,
  show (t.Text == ([] : LB)) = false by simpa using h, cF]
 simp only [Av]
 have key : ((A0 ⟨b :: c :: l, n, d⟩ (⟨(3 : Int), (⟨([] : LB), ([] : LB)⟩ : Am), ([] : List Ab), ([] : List Ac), t.Text⟩ : Ac)).bind fun x26 => some (x26.1, x26.2)) = some (if 8192 < t.Text.length then (5, ⟨b :: c :: l, n, d⟩) else (0, ⟨kid b (txN t.Text) :: c :: l, n + 1, d⟩)) := by
  have hp' : A0 ⟨b :: c :: l, n, d⟩ (⟨(3 : Int), (⟨([] : LB), ([] : LB)⟩ : Am), ([] : List Ab), ([] : List Ac), t.Text⟩ : Ac) = _ := hp
  rw [hp']; rfl
 rcases List.eq_nil_or_concat b.node.Kids with hK | ⟨k, x, hK⟩
 ·rw [hK, show decide (IntKind.wrap .i64 ((([] : List Nd).length : Int) - 1) < 0) = true by decide, cT, cT]
  exact key
 ·rw [List.concat_eq_append] at hK
  have hkl : k.length ≤ 1000000000 := by rw [hK] at hk; simp at hk; omega
  obtain ⟨i1, i2, i3⟩ := PV (k := k) (x := x) hkl
  have hx3 := hx x (by rw [hK]; simp)
  rw [hK, dF i3, cF, i1, bS, show (x.Kind != (3 : Int)) = true by simpa using hx3, cT]
  exact key
theorem LS {b c : Op} {l : List Op} {n : Int} {d : Bool} {t : Tk} {k : List Nd} {x : Nd} (hl : l.length ≤ 100000) (hk : k.length ≤ 100000000) (h : t.Text ≠ []) (hK : b.node.Kids = k ++ [x]) (h3 : x.Kind = 3) (hs : x.Text.length + t.Text.length ≤ 1000000000) :
  AN ⟨b :: c :: l, n, d⟩ t = some (if 8192 < (x.Text ++ t.Text).length then 5 else 0, ⟨setK b (k ++ [⟨x.Kind, x.Name, x.Attrs, x.Kids, x.Text ++ t.Text⟩]) :: c :: l, n, d⟩) := by
 obtain ⟨i1, i2, i3⟩ := PV (k := k) (x := x) om
 unfold AN
 dsimp only
 rw [show (((b :: c :: l).length : Int) == 1) = false by rw [bn]; simp only [lC]; omega, cF, Gr (by simp only [lC]; omega), bS,
  show (t.Text == ([] : LB)) = false by simpa using h, cF]
 simp only [Av]
 rw [hK, dF i3, cF, i1, bS, show (x.Kind != (3 : Int)) = false by simpa using h3, cF, bS, Il om, bS, bS, bS, i2]
 have hset : (k ++ [x]).set k.length (⟨x.Kind, x.Name, x.Attrs, x.Kids, x.Text ++ t.Text⟩ : Nd) = k ++ [⟨x.Kind, x.Name, x.Attrs, x.Kids, x.Text ++ t.Text⟩] := by
  rw [List.set_append_right _ _ (Nat.le_refl _), Nat.sub_self]; rfl
 rw [hset]
 have hlen : ((k ++ [x]).length : Int) = ((k ++ [(⟨x.Kind, x.Name, x.Attrs, x.Kids, x.Text ++ t.Text⟩ : Nd)]).length : Int) := by simp
 rw [hlen, (PV (k := k) om).1, bS]
 dsimp only
 by_cases hb : 8192 < (x.Text ++ t.Text).length
 ·rw [dT om, cT, if_pos hb]; rfl
 ·rw [dF om, cF, if_neg hb]; rfl
structure Pie (w : LB) (t : Tk) : Prop where
 ok : OkT w
 n13 : (13 : UInt8) ∉ w
 ne : w ≠ []
 hd : t.Kind ≠ 5 → ∃ r, w = 60 :: r
 rd : ∀ {U R : LB} {i : Nat}, U.length ≤ 65536 → U.drop i = w ++ R → (t.Kind = 5 → R = [] ∨ R[0]? = some 60) → ∃ n, An ⟨U, (i : Int)⟩ (DC i) = some (0, ⟨U, ((i + w.length : Nat) : Int)⟩, ⟨t.Kind, (i : Int), t.Name, t.Pairs, t.Text, n⟩)
inductive bo : List (LB × Tk) → Prop
 | nil : bo []
 | snoc {L : List (LB × Tk)} {w : LB} {t : Tk} : bo L → Pie w t → (t.Kind = 5 → ∀ u, L.getLast? = some u → u.2.Kind ≠ 5) → bo (L ++ [(w, t)])
def fF (L : List (LB × Tk)) : LB := L.flatMap (·.1)
def fh (L : List (LB × Tk)) (M : List Tk) : Prop := M.length = L.length ∧ ∀ (k : Nat) (x : LB × Tk), L[k]? = some x → ∃ n a, M[k]? = some ⟨x.2.Kind, a, x.2.Name, x.2.Pairs, x.2.Text, n⟩
def eT (X : LB) : Op := setK elA (if X = [] then [] else [txN X])
def fr (L : List (LB × Tk)) : LB := L.flatMap fun x => x.2.Text
def YV (c : UInt8) : Int := if 48 ≤ c.toNat ∧ c.toNat ≤ 57 then (c.toNat : Int) - 48 else if 97 ≤ c.toNat ∧ c.toNat ≤ 102 then (c.toNat : Int) - 87 else if 65 ≤ c.toNat ∧ c.toNat ≤ 70 then (c.toNat : Int) - 55 else -1
def dgP (base : Int) (c : UInt8) : Bool := decide (0 ≤ YV c) && decide (YV c < base)
def gv (base : Int) (g : Int) (l : LB) : Int := l.foldl (fun g c => if 1114112 < g * base + YV c then 1114112 else g * base + YV c) g
def cG : Nat → Nat → LB
 | 0, _ => []
 | k + 1, x => if x = 0 then [] else cG k (x / 10) ++ [UInt8.ofNat (48 + x % 10)]
inductive Num : LB → LB → Prop
 | nil : Num [] []
 | cons {l N : LB} : l ≠ [] → Gc (decodeL l) = false → Ee ((decodeL l).1 : Int) = true → Num (l.drop (decodeL l).2) N → Num l (38 :: 35 :: (cG 8 (decodeL l).1 ++ 59 :: N))
def Bd (p : LB) (k : Nat) : Prop := k ≤ p.length ∧ OkT (p.take k) ∧ OkT (p.drop k)
def ek (s w : LB) : Prop := ∃ r, A5 w = some r ∧ r.2.2 = 0 ∧ ∃ y, r.1.Kids = [y] ∧ y.Kids = [txN s]
def tk5 (x : LB) : Tk := ⟨5, 0, [], [], x, 0⟩
def tk6 (x : LB) : Tk := ⟨6, 0, [], [], x, 0⟩
def tp (x : LB) : List (LB × Tk) := if x = [] then [] else [(x.flatMap txE, tk5 x)]
def cdW (x : LB) : LB := [60, 33, 91, 67, 68, 65, 84, 65, 91] ++ (x ++ [93, 93, 62])
inductive Wv : LB → Prop
 | nil : Wv []
 | cons {l : LB} : l ≠ [] → Gc (decodeL l) = false → KR ((decodeL l).1 : Int) = true → Wv (l.drop (decodeL l).2) → Wv l
abbrev Ent := (UInt8 × (UInt8 → LB)) × TP
def shM (ps : List Ent) : LB := ps.flatMap fun e => 32 :: (e.2.Name ++ 61 :: e.1.1 :: (e.2.Value.flatMap e.1.2 ++ [e.1.1]))
structure fp (e : Ent) : Prop where
 w : QW e.1.1 e.1.2
 n : Ho e.2.Name
 v : OkT e.2.Value
def prs (ps : List Ent) : List TP := ps.map (·.2)
def fJ (nm : LB) (ps : List Ent) (lone : Bool) : LB := 60 :: (nm ++ (shM ps ++ (if lone then [47, 62] else [62])))
def fS (nm : LB) (ps : List Ent) (lone : Bool) : Tk := ⟨if lone then 4 else 2, 0, nm, prs ps, [], 0⟩
def fD (nm g : LB) : LB := 60 :: 47 :: (nm ++ (g ++ [62]))
def fI (nm : LB) : Tk := ⟨3, 0, nm, [], [], 0⟩
abbrev BS : LB := [120, 109, 108, 110, 115]
abbrev BX : LB := [120, 109, 108]
abbrev SPN : LB := [104, 116, 116, 112, 58, 47, 47, 119, 119, 119, 46, 119, 51, 46, 111, 114, 103, 47, 50, 48, 48, 48, 47, 120, 109, 108, 110, 115, 47]
abbrev SPX : LB := [104, 116, 116, 112, 58, 47, 47, 119, 119, 119, 46, 119, 51, 46, 111, 114, 103, 47, 88, 77, 76, 47, 49, 57, 57, 56, 47, 110, 97, 109, 101, 115, 112, 97, 99, 101]
def dY (u : LB) : Int := if u = SPN ∨ u = SPX then 29 else if u = [] then 28 else if 100 < u.length then 6 else 0
section
variable {ps : List TP} {i m : Nat} {c b : List Ag} {had : List LB} {n v p : LB}
def fA : (List Ag × List Ag) ⊕ (Ao × Int) → Ao × Int
 | .inl x => (⟨x.2⟩, 0)
 | .inr x => x
end
section
variable {ps : List TP} {i m : Nat} {s : List Ag} {a : List Ab} {n v p l u : LB}
end
section
variable {a : Op} {l : List Op} {n : Int} {d : Bool} {t : Tk} {s : List Ag}
end
theorem Nc (l : List Ab) (hl : l.length ≤ 10000000000) : Cc l l = some true := by
 unfold Cc
 rw [bne_self_eq_false, cF]
 obtain ⟨o, e, rfl⟩ := CA (b := Cy l l) (fun i x => x = (i : Int)) (fun o => o = .inl ()) l.length (x0 := (0 : Int)) rfl (by
  rintro i _ rec hi rfl
  left
  refine ⟨((i + 1 : Nat) : Int), ?_, rfl⟩
  unfold Cy
  rw [dT om, cT, Bw hi, bS, bS]
  simp only [beq_self_eq_true, Bool.and_self, bT, cF]
  rw [w64 om om]
  rfl) (by
  rintro _ rec rfl
  refine ⟨_, ?_, rfl⟩
  unfold Cy
  rw [dF om, cF]) (n := AA) (by unfold AA; omega)
 simp only [Av]
 rw [e]; rfl
theorem Vu {x : Ac} {m : Nat} (ha : x.Attrs.length ≤ 10000000000) (hk : x.Kids.length ≤ 10000000000) (h : ∀ k ∈ x.Kids, iter BF m (k, k) = some true) : iter BF (m + 1) (x, x) = some true := by
 rw [DN]
 generalize iter BF m = rc at h ⊢
 unfold BF
 dsimp only
 simp only [Av, bne_self_eq_false, beq_self_eq_true, Bool.and_self, bT, Bool.or_self, cF]
 rw [Nc _ ha, bS, bT, show (false || false) = false from rfl, cF]
 obtain ⟨o, e, rfl⟩ := CA (b := Dc x x rc) (fun i y => y = (i : Int)) (fun o => o = .inl ()) x.Kids.length (x0 := (0 : Int)) rfl (by
  rintro i _ rec hi rfl
  left
  refine ⟨((i + 1 : Nat) : Int), ?_, rfl⟩
  unfold Dc
  rw [dT om, cT, Bw hi, bS, bS, h _ (List.getElem_mem hi), bS, bT, cF, w64 om om]
  rfl) (by
  rintro _ rec rfl
  refine ⟨_, ?_, rfl⟩
  unfold Dc
  rw [dF om, cF]) (n := AA) (by unfold AA; omega)
 rw [e]; rfl
abbrev At := Ab
theorem Er {α : Type} {l : List α} {i : Int} (h0 : 0 ≤ i) (h1 : i < (l.length : Int)) : ∃ x, idx l i = some x := by
 obtain ⟨k, rfl⟩ : ∃ k : Nat, i = (k : Int) := ⟨i.toNat, by omega⟩
 exact ⟨_, Bw om⟩
theorem Xv {α : Type} {l : List α} (k : Nat) : idx l (k : Int) = l[k]? := by
 unfold idx; rw [if_pos om, Int.toNat_natCast]
theorem ae {α : Type} {L U V : List α} {x : α} {i : Int} (hL : L = U ++ x :: V) (hi : i = (U.length : Int)) : idx L i = some x := by
 subst hL hi; rw [Xv, List.getElem?_append_right (Nat.le_refl _), Nat.sub_self]; rfl
theorem Le {x : Int} (h0 : 0 ≤ x) (h1 : x ≤ 1099511627776) : IntKind.wrap .i64 (DF .u64 (IntKind.wrap .u64 (IntKind.wrap .i64 x)) (1 : Int)) = x / 2 := by
 have e1 : IntKind.wrap .i64 x = x := w64 om om
 have e2 : IntKind.wrap .u64 x = x := by simp [IntKind.wrap, IntKind.bits, IntKind.signed]; omega
 have e3 : DF .u64 x (1 : Int) = x / 2 := by
  unfold DF
  have : min (1 : Int).toNat IntKind.u64.bits = 1 := by decide
  rw [this]
  show x.fdiv 2 = _
  rw [Int.fdiv_eq_ediv_of_nonneg _ om]
 rw [e1, e2, e3, w64 om om]
section
variable {f : At → At → Option Int} (hf : ∀ x y, ∃ z, f x y = some z)
theorem HU {xs : List At} {a b n : Int} (hl : xs.length ≤ 1073741824) (h1 : 0 ≤ a) (h2 : 0 ≤ b) (h3 : 0 ≤ n) (h4 : a + n ≤ xs.length) (h5 : b + n ≤ xs.length) : ∃ ys, A7 xs a b n f = some ys ∧ ys.length = xs.length := by
 obtain ⟨o, e, ho⟩ := Ci (b := BE a b n) (fun s => (n - s.2).toNat) (fun s => s.1.length = xs.length ∧ 0 ≤ s.2 ∧ s.2 ≤ n) (fun o => o.length = xs.length) (by
  rintro ⟨l, i⟩ ⟨i1, i2, i3⟩
  dsimp only at i1 i2 i3
  by_cases hi : i < n
  ·left
   have w1 : IntKind.wrap .i64 (b + i) = b + i := w64 om om
   have w2 : IntKind.wrap .i64 (a + i) = a + i := w64 om om
   have w3 : IntKind.wrap .i64 (i + 1) = i + 1 := w64 om om
   obtain ⟨x9, e9⟩ := Er (l := l) (i := b + i) om om
   obtain ⟨x10, e10⟩ := Er (l := l) (i := a + i) om om
   obtain ⟨x13, e13⟩ := Er (l := List.set l (Int.toNat (a + i)) x9) (i := b + i) om (by rw [List.length_set]; omega)
   refine ⟨(List.set (List.set l (Int.toNat (a + i)) x9) (Int.toNat (b + i)) x10, i + 1), fun rec => ?_, ⟨by simp [i1], by dsimp only; omega, by dsimp only; omega⟩, by dsimp only; omega⟩
   unfold BE
   dsimp only
   rw [dT hi, cT, w1, w2, w3, e9, bS, e10, bS, bS, bS, e13, bS, bS]
  ·right
   refine ⟨l, fun rec => ?_, i1⟩
   unfold BE
   dsimp only
   rw [dF hi, cF]) AA (xs, (0 : Int)) ⟨rfl, Int.le_refl _, h3⟩ (by unfold AA; dsimp only; omega)
 unfold A7
 rw [e, bS]
 exact ⟨o, rfl, ho⟩
theorem GE {α : Type} {a b : List α} (h : a.length = b.length) : eqL a b = some () := by unfold eqL; rw [if_pos h]
theorem SU {xs : List At} {a m b : Int} (hl : xs.length ≤ 1073741824) (h1 : 0 ≤ a) (h2 : a < m) (h3 : m < b) (h4 : b ≤ xs.length) : ∃ ys, BM xs a m b f = some ys ∧ ys.length = xs.length := by
 obtain ⟨⟨o, i⟩, e, ho, hi⟩ := Ci (b := Bv m f) (fun s => (s.2.1 + s.2.2).toNat) (fun s => s.1.length = xs.length ∧ 0 < s.2.1 ∧ 0 < s.2.2 ∧ s.2.1 ≤ m - a ∧ s.2.2 ≤ b - m) (fun o => o.1.length = xs.length ∧ 0 < o.2 ∧ o.2 ≤ m - a ∧ o.2 ≤ b - m) (by
  rintro ⟨l, i, j⟩ ⟨i1, i2, i3, i4, i5⟩
  dsimp only at i1 i2 i3 i4 i5
  have w1 : IntKind.wrap .i64 (m - i) = m - i := w64 om om
  have w2 : IntKind.wrap .i64 (m + j) = m + j := w64 om om
  have w3 : IntKind.wrap .i64 (m + j - i) = m + j - i := w64 om om
  have w4 : IntKind.wrap .i64 (i - j) = i - j := w64 om om
  have w5 : IntKind.wrap .i64 (j - i) = j - i := w64 om om
  by_cases hij : i = j
  ·right
   refine ⟨(l, i), fun rec => ?_, i1, i2, i4, by dsimp only; omega⟩
   unfold Bv
   dsimp only
   rw [show (i != j) = false by simpa using hij, cF]
  ·left
   by_cases hlt : j < i
   ·obtain ⟨ys, y1, y2⟩ := HU (f := f) (xs := l) (a := m - i) (b := m) (n := j) om om om om om om
    refine ⟨(ys, i - j, j), fun rec => ?_, ⟨y2.trans i1, by dsimp only; omega, by dsimp only; omega, by dsimp only; omega, by dsimp only; omega⟩, by dsimp only; omega⟩
    unfold Bv
    dsimp only
    rw [show (i != j) = true by simpa using hij, cT, dT hlt, cT, w1, y1, bS, bS, GE y2, bS, w4]
   ·obtain ⟨ys, y1, y2⟩ := HU (f := f) (xs := l) (a := m - i) (b := m + j - i) (n := i) om om om om om om
    refine ⟨(ys, i, j - i), fun rec => ?_, ⟨y2.trans i1, by dsimp only; omega, by dsimp only; omega, by dsimp only; omega, by dsimp only; omega⟩, by dsimp only; omega⟩
    unfold Bv
    dsimp only
    rw [show (i != j) = true by simpa using hij, cT, dF hlt, cF, w1, w2, w3, y1, bS, bS, GE y2, bS, w5]) AA (xs, m - a, b - m) ⟨rfl, by dsimp only; omega, by dsimp only; omega, Int.le_refl _, Int.le_refl _⟩ (by unfold AA; dsimp only; omega)
 dsimp only at ho hi
 obtain ⟨hi1, hi2, hi3⟩ := hi
 obtain ⟨ys, y1, y2⟩ := HU (f := f) (xs := o) (a := m - i) (b := m) (n := i) om om om om om om
 unfold BM
 simp only [Av]
 rw [w64 (x := m - a) om om, w64 (x := b - m) om om, e, bS]
 dsimp only
 rw [w64 (x := m - i) om om, y1, bS, bS, GE y2, bS]
 exact ⟨ys, rfl, y2.trans ho⟩
include hf
theorem Up {xs : List At} {a i j : Int} (hl : xs.length ≤ 1073741824) (h0 : 0 ≤ a) (h1 : a < xs.length) (h2 : 0 ≤ i) (h3 : i ≤ j) (h4 : j ≤ xs.length) : ∃ o, iter (Bk xs a f) AA (i, j) = some o ∧ i ≤ o ∧ o ≤ j := by
 refine Ci (b := Bk xs a f) (fun s => (s.2 - s.1).toNat) (fun s => i ≤ s.1 ∧ s.1 ≤ s.2 ∧ s.2 ≤ j) (fun o => i ≤ o ∧ o ≤ j) ?_ AA (i, j) ⟨Int.le_refl _, h3, Int.le_refl _⟩ (by unfold AA; dsimp only; omega)
 rintro ⟨p, q⟩ ⟨i1, i2, i3⟩
 dsimp only at i1 i2 i3
 have hh := Le (x := p + q) om om
 by_cases hpq : p < q
 ·left
  obtain ⟨x, ex⟩ := Er (l := xs) (i := (p + q) / 2) om om
  obtain ⟨y, ey⟩ := Er (l := xs) (i := a) om om
  obtain ⟨z, ez⟩ := hf x y
  refine ⟨(if z < 0 then ((p + q) / 2 + 1, q) else (p, (p + q) / 2)), fun rec => ?_, by split <;> exact ⟨by dsimp only; omega, by dsimp only; omega, by dsimp only; omega⟩, by split <;> (dsimp only; omega)⟩
  unfold Bk
  dsimp only
  rw [dT hpq, cT, hh, ex, bS, ey, bS, ez, bS, w64 (x := (p + q) / 2 + 1) om om]
  by_cases hz : z < 0
  ·rw [dT hz, cT, if_pos hz]
  ·rw [dF hz, cF, if_neg hz]
 ·right
  refine ⟨p, fun rec => ?_, by omega, by omega⟩
  unfold Bk
  dsimp only
  rw [dF hpq, cF]
theorem VG {xs : List At} {m i j : Int} (hl : xs.length ≤ 1073741824) (h0 : 0 ≤ m) (h1 : m < xs.length) (h2 : 0 ≤ i) (h3 : i ≤ j) (h4 : j ≤ xs.length) : ∃ o, iter (Bj xs m f) AA (i, j) = some o ∧ i ≤ o ∧ o ≤ j := by
 refine Ci (b := Bj xs m f) (fun s => (s.2 - s.1).toNat) (fun s => i ≤ s.1 ∧ s.1 ≤ s.2 ∧ s.2 ≤ j) (fun o => i ≤ o ∧ o ≤ j) ?_ AA (i, j) ⟨Int.le_refl _, h3, Int.le_refl _⟩ (by unfold AA; dsimp only; omega)
 rintro ⟨p, q⟩ ⟨i1, i2, i3⟩
 dsimp only at i1 i2 i3
 have hh := Le (x := p + q) om om
 by_cases hpq : p < q
 ·left
  obtain ⟨x, ex⟩ := Er (l := xs) (i := (p + q) / 2) om om
  obtain ⟨y, ey⟩ := Er (l := xs) (i := m) om om
  obtain ⟨z, ez⟩ := hf y x
  refine ⟨(if z < 0 then (p, (p + q) / 2) else ((p + q) / 2 + 1, q)), fun rec => ?_, by split <;> exact ⟨by dsimp only; omega, by dsimp only; omega, by dsimp only; omega⟩, by split <;> (dsimp only; omega)⟩
  unfold Bj
  dsimp only
  rw [dT hpq, cT, hh, ey, bS, ex, bS, ez, bS, w64 (x := (p + q) / 2 + 1) om om]
  by_cases hz : z < 0
  ·rw [dT hz, bT, cF, if_pos hz]
  ·rw [dF hz, bF, cT, if_neg hz]
 ·right
  refine ⟨p, fun rec => ?_, by omega, by omega⟩
  unfold Bj
  dsimp only
  rw [dF hpq, cF]
omit hf in
theorem ZB {xs : List At} {a i : Int} (hl : xs.length ≤ 1073741824) (h0 : 0 ≤ a) (h2 : i ≤ xs.length) (h3 : 0 ≤ i) : ∃ ys, iter (Bi i) AA (xs, a) = some ys ∧ ys.length = xs.length := by
 refine Ci (b := Bi i) (fun s => (i - s.2).toNat) (fun s => s.1.length = xs.length ∧ 0 ≤ s.2) (fun o => o.length = xs.length) ?_ AA (xs, a) ⟨rfl, h0⟩ (by unfold AA; dsimp only; omega)
 rintro ⟨l, k⟩ ⟨i1, i2⟩
 dsimp only at i1 i2
 have w1 : IntKind.wrap .i64 (i - 1) = i - 1 := w64 om om
 by_cases hk : k < i - 1
 ·left
  have w2 : IntKind.wrap .i64 (k + 1) = k + 1 := w64 om om
  obtain ⟨x, ex⟩ := Er (l := l) (i := k + 1) om om
  obtain ⟨y, ey⟩ := Er (l := l) (i := k) om om
  obtain ⟨z, ez⟩ := Er (l := List.set l (Int.toNat k) x) (i := k + 1) om (by rw [List.length_set]; omega)
  refine ⟨(List.set (List.set l (Int.toNat k) x) (Int.toNat (k + 1)) y, k + 1), fun rec => ?_, ⟨by simp [i1], by dsimp only; omega⟩, by dsimp only; omega⟩
  unfold Bi
  dsimp only
  rw [w1, dT hk, cT, w2, ex, bS, ey, bS, bS, bS, ez, bS, bS]
 ·right
  refine ⟨l, fun rec => ?_, i1⟩
  unfold Bi
  dsimp only
  rw [w1, dF hk, cF]
omit hf in
theorem Zu {xs : List At} {m i : Int} (hl : xs.length ≤ 1073741824) (h0 : 0 ≤ i) (h2 : m < xs.length) (h3 : 0 ≤ m) : ∃ ys, iter (Bg i) AA (xs, m) = some ys ∧ ys.length = xs.length := by
 refine Ci (b := Bg i) (fun s => s.2.toNat) (fun s => s.1.length = xs.length ∧ s.2 < xs.length ∧ 0 ≤ s.2) (fun o => o.length = xs.length) ?_ AA (xs, m) ⟨rfl, h2, h3⟩ (by unfold AA; dsimp only; omega)
 rintro ⟨l, k⟩ ⟨i1, i2, i3⟩
 dsimp only at i1 i2 i3
 by_cases hk : i < k
 ·left
  have w2 : IntKind.wrap .i64 (k - 1) = k - 1 := w64 om om
  obtain ⟨x, ex⟩ := Er (l := l) (i := k - 1) om om
  obtain ⟨y, ey⟩ := Er (l := l) (i := k) om om
  obtain ⟨z, ez⟩ := Er (l := List.set l (Int.toNat k) x) (i := k - 1) om (by rw [List.length_set]; omega)
  refine ⟨(List.set (List.set l (Int.toNat k) x) (Int.toNat (k - 1)) y, k - 1), fun rec => ?_, ⟨by simp [i1], by dsimp only; omega, by dsimp only; omega⟩, by dsimp only; omega⟩
  unfold Bg
  dsimp only
  rw [dT hk, cT, w2, ex, bS, ey, bS, bS, bS, ez, bS, bS]
 ·right
  refine ⟨l, fun rec => ?_, i1⟩
  unfold Bg
  dsimp only
  rw [dF hk, cF]
theorem OR {xs : List At} {a m b s0 r0 N : Int} (hl : xs.length ≤ 1073741824) (hN : (a + b) / 2 + m = N) (ha : 0 ≤ a) (hm : a < m) (hb : m < b) (hbl : b ≤ xs.length) (h0 : 0 ≤ s0) (h1 : s0 ≤ r0) (h2 : r0 ≤ xs.length) (h3 : N - r0 ≥ 0) (h4 : N - 1 - s0 < xs.length) :
  ∃ o, iter (Bh xs a m b f) AA (s0, r0) = some o ∧ s0 ≤ o ∧ o ≤ r0 := by
 have hmid := Le (x := a + b) om om
 have w1 : IntKind.wrap .i64 ((a + b) / 2 + m) = N := by rw [hN]; exact w64 om om
 have w2 : IntKind.wrap .i64 (N - 1) = N - 1 := w64 om om
 refine Ci (b := Bh xs a m b f) (fun s => (s.2 - s.1).toNat) (fun s => s0 ≤ s.1 ∧ s.1 ≤ s.2 ∧ s.2 ≤ r0) (fun o => s0 ≤ o ∧ o ≤ r0) ?_ AA (s0, r0) ⟨Int.le_refl _, h1, Int.le_refl _⟩ (by unfold AA; dsimp only; omega)
 rintro ⟨p, q⟩ ⟨i1, i2, i3⟩
 dsimp only at i1 i2 i3
 have hh := Le (x := p + q) om om
 by_cases hpq : p < q
 ·left
  have w3 : IntKind.wrap .i64 (N - 1 - (p + q) / 2) = N - 1 - (p + q) / 2 := w64 om om
  obtain ⟨x, ex⟩ := Er (l := xs) (i := N - 1 - (p + q) / 2) om om
  obtain ⟨y, ey⟩ := Er (l := xs) (i := (p + q) / 2) om om
  obtain ⟨z, ez⟩ := hf x y
  refine ⟨(if z < 0 then (p, (p + q) / 2) else ((p + q) / 2 + 1, q)), fun rec => ?_, by split <;> exact ⟨by dsimp only; omega, by dsimp only; omega, by dsimp only; omega⟩, by split <;> (dsimp only; omega)⟩
  unfold Bh
  dsimp only
  rw [dT hpq, cT, hmid, hh, w1, w2, w3, ex, bS, ey, bS, ez, bS, w64 (x := (p + q) / 2 + 1) om om]
  by_cases hz : z < 0
  ·rw [dT hz, bT, cF, if_pos hz]
  ·rw [dF hz, bF, cT, if_neg hz]
 ·right
  refine ⟨p, fun rec => ?_, by omega, by omega⟩
  unfold Bh
  dsimp only
  rw [dF hpq, cF]
theorem Lc : ∀ (K : Nat) (xs : List At) (a m b : Int), xs.length ≤ 1073741824 → 0 ≤ a → a < m → m < b → b ≤ xs.length → b - a < K → ∃ ys, iter AG K (xs, a, m, b, f) = some ys ∧ ys.length = xs.length
 | 0, xs, a, m, b, _, _, _, _, _, h => by omega
 | K + 1, xs, a, m, b, hl, ha, hm, hb, hbl, hK => by
  have ih := fun xs a m b => Lc K xs a m b
  rw [DN]
  generalize iter AG K = rec0 at ih ⊢
  unfold AG
  dsimp only
  simp only [Av]
  have w1 : IntKind.wrap .i64 (m - a) = m - a := w64 om om
  have w2 : IntKind.wrap .i64 (b - m) = b - m := w64 om om
  rw [w1, w2]
  by_cases c1 : m - a = 1
  ·rw [show ((m - a) == 1) = true by simpa using c1, cT]
   obtain ⟨o, e, o1, o2⟩ := Up hf (xs := xs) (a := a) (i := m) (j := b) hl ha om om om hbl
   rw [e, bS]
   obtain ⟨ys, y1, y2⟩ := ZB (xs := xs) (a := a) (i := o) hl ha om om
   rw [y1, bS]
   exact ⟨ys, rfl, y2⟩
  rw [show ((m - a) == 1) = false by simpa using c1, cF]
  by_cases c2 : b - m = 1
  ·rw [show ((b - m) == 1) = true by simpa using c2, cT]
   obtain ⟨o, e, o1, o2⟩ := VG hf (xs := xs) (m := m) (i := a) (j := m) hl om om ha om om
   rw [e, bS]
   obtain ⟨ys, y1, y2⟩ := Zu (xs := xs) (m := m) (i := o) hl om om om
   rw [y1, bS]
   exact ⟨ys, rfl, y2⟩
  rw [show ((b - m) == 1) = false by simpa using c2, cF]
  have hmid := Le (x := a + b) om om
  rw [hmid]
  generalize hM : (a + b) / 2 = M
  have hM1 : a < M ∧ M < b ∧ 2 * M ≤ a + b ∧ a + b ≤ 2 * M + 1 := by omega
  obtain ⟨m1, m2, m3, m4⟩ := hM1
  have w3 : IntKind.wrap .i64 (M + m) = M + m := w64 om om
  have w4 : IntKind.wrap .i64 (M + m - b) = M + m - b := w64 om om
  rw [w3, w4]
  have tail : ∀ s : Int, 0 ≤ s → s ≤ M + m → M + m - s ≤ b → ∃ ys, (cond ((decide (s < m)) && (decide (m < (IntKind.wrap .i64 (M + m - s)))))
    ((BM xs s m (IntKind.wrap .i64 (M + m - s)) f).bind fun x211 =>
    (some x211).bind fun a213 =>
    (eqL a213 xs).bind fun _ =>
    cond ((decide (a < s)) && (decide (s < M)))
    ((rec0 (a213, a, s, M, f)).bind fun x226 =>
     (some x226).bind fun a228 =>
     (eqL a228 a213).bind fun _ =>
    cond ((decide (M < (IntKind.wrap .i64 (M + m - s)))) && (decide ((IntKind.wrap .i64 (M + m - s)) < b)))
     ((rec0 (a228, M, (IntKind.wrap .i64 (M + m - s)), b, f)).bind fun x232 =>
     (some x232).bind fun a234 =>
     (eqL a234 a228).bind fun _ =>
     some a234)
     (some a228))
    (cond ((decide (M < (IntKind.wrap .i64 (M + m - s)))) && (decide ((IntKind.wrap .i64 (M + m - s)) < b)))
     ((rec0 (a213, M, (IntKind.wrap .i64 (M + m - s)), b, f)).bind fun x232 =>
     (some x232).bind fun a234 =>
     (eqL a234 a213).bind fun _ =>
     some a234)
     (some a213)))
    (cond ((decide (a < s)) && (decide (s < M)))
    ((rec0 (xs, a, s, M, f)).bind fun x226 =>
     (some x226).bind fun a228 =>
     (eqL a228 xs).bind fun _ =>
    cond ((decide (M < (IntKind.wrap .i64 (M + m - s)))) && (decide ((IntKind.wrap .i64 (M + m - s)) < b)))
     ((rec0 (a228, M, (IntKind.wrap .i64 (M + m - s)), b, f)).bind fun x232 =>
     (some x232).bind fun a234 =>
     (eqL a234 a228).bind fun _ =>
     some a234)
     (some a228))
    (cond ((decide (M < (IntKind.wrap .i64 (M + m - s)))) && (decide ((IntKind.wrap .i64 (M + m - s)) < b)))
     ((rec0 (xs, M, (IntKind.wrap .i64 (M + m - s)), b, f)).bind fun x232 =>
     (some x232).bind fun a234 =>
     (eqL a234 xs).bind fun _ =>
     some a234)
     (some xs)))) = some ys ∧ ys.length = xs.length := by
   intro s hs0 hs1 hs2
   have w5 : IntKind.wrap .i64 (M + m - s) = M + m - s := w64 om om
   rw [w5]
   have last : ∀ l : List At, l.length = xs.length → ∃ ys, (cond ((decide (M < (M + m - s))) && (decide ((M + m - s) < b)))
     ((rec0 (l, M, (M + m - s), b, f)).bind fun x232 =>
     (some x232).bind fun a234 =>
     (eqL a234 l).bind fun _ =>
     some a234)
     (some l)) = some ys ∧ ys.length = xs.length := by
    intro l hll
    by_cases c : M < M + m - s ∧ M + m - s < b
    ·obtain ⟨ys, y1, y2⟩ := ih l M (M + m - s) b om om c.1 c.2 om om
     rw [dT c.1, dT c.2, Bool.and_self, cT, y1, bS, bS, GE y2, bS]
     exact ⟨ys, rfl, y2.trans hll⟩
    ·have : ((decide (M < (M + m - s))) && (decide ((M + m - s) < b))) = false := by
      rw [Bool.and_eq_false_iff, decide_eq_false_iff_not, decide_eq_false_iff_not]; omega
     rw [this, cF]
     exact ⟨l, rfl, hll⟩
   have mid : ∀ l : List At, l.length = xs.length → ∃ ys, (cond ((decide (a < s)) && (decide (s < M)))
    ((rec0 (l, a, s, M, f)).bind fun x226 =>
     (some x226).bind fun a228 =>
     (eqL a228 l).bind fun _ =>
    cond ((decide (M < (M + m - s))) && (decide ((M + m - s) < b)))
     ((rec0 (a228, M, (M + m - s), b, f)).bind fun x232 =>
     (some x232).bind fun a234 =>
     (eqL a234 a228).bind fun _ =>
     some a234)
     (some a228))
    (cond ((decide (M < (M + m - s))) && (decide ((M + m - s) < b)))
     ((rec0 (l, M, (M + m - s), b, f)).bind fun x232 =>
     (some x232).bind fun a234 =>
     (eqL a234 l).bind fun _ =>
     some a234)
     (some l))) = some ys ∧ ys.length = xs.length := by
    intro l hll
    by_cases c : a < s ∧ s < M
    ·obtain ⟨ys, y1, y2⟩ := ih l a s M om ha c.1 c.2 om om
     rw [dT c.1, dT c.2, Bool.and_self, cT, y1, bS, bS, GE y2, bS]
     exact last ys (y2.trans hll)
    ·have : ((decide (a < s)) && (decide (s < M))) = false := by
      rw [Bool.and_eq_false_iff, decide_eq_false_iff_not, decide_eq_false_iff_not]; omega
     rw [this, cF]
     exact last l hll
   by_cases c : s < m ∧ m < M + m - s
   ·obtain ⟨ys, y1, y2⟩ := SU (f := f) (xs := xs) (a := s) (m := m) (b := M + m - s) hl hs0 c.1 c.2 om
    rw [dT c.1, dT c.2, Bool.and_self, cT, y1, bS, bS, GE y2, bS]
    exact mid ys y2
   ·have : ((decide (s < m)) && (decide (m < (M + m - s)))) = false := by
     rw [Bool.and_eq_false_iff, decide_eq_false_iff_not, decide_eq_false_iff_not]; omega
    rw [this, cF]
    exact mid xs rfl
  by_cases c3 : M < m
  ·rw [dT c3, cT]
   obtain ⟨o, e, o1, o2⟩ := OR hf (xs := xs) (a := a) (m := m) (b := b) (s0 := M + m - b) (r0 := M) (N := M + m) hl (by rw [hM]) ha hm hb hbl om om om om om
   rw [e, bS]
   exact tail o om om om
  ·rw [dF c3, cF]
   obtain ⟨o, e, o1, o2⟩ := OR hf (xs := xs) (a := a) (m := m) (b := b) (s0 := a) (r0 := m) (N := M + m) hl (by rw [hM]) ha hm hb hbl ha om om om om
   rw [e, bS]
   exact tail o om om om
end
section
variable {f : At → At → Option Int} (hf : ∀ x y, ∃ z, f x y = some z)
include hf
theorem Kc {xs : List At} {a b : Int} (hl : xs.length ≤ 1073741824) (ha : 0 ≤ a) (hb : b ≤ xs.length) (hb0 : 0 ≤ b) (hal : a ≤ xs.length) : ∃ ys, A9 xs a b f = some ys ∧ ys.length = xs.length := by
 have inner : ∀ (l : List At) (i : Int), l.length = xs.length → 0 ≤ i → i < xs.length → ∃ ys, iter (AP a f) AA (l, i) = some ys ∧ ys.length = xs.length := by
  intro l i hll hi0 hi1
  refine Ci (b := AP a f) (fun s => s.2.toNat) (fun s => s.1.length = xs.length ∧ 0 ≤ s.2 ∧ s.2 < xs.length) (fun o => o.length = xs.length) ?_ AA (l, i) ⟨hll, hi0, hi1⟩ (by unfold AA; dsimp only; omega)
  rintro ⟨l, k⟩ ⟨i1, i2, i3⟩
  dsimp only at i1 i2 i3
  by_cases hk : a < k
  ·have w2 : IntKind.wrap .i64 (k - 1) = k - 1 := w64 om om
   obtain ⟨x, ex⟩ := Er (l := l) (i := k) om om
   obtain ⟨y, ey⟩ := Er (l := l) (i := k - 1) om om
   obtain ⟨z, ez⟩ := hf x y
   by_cases hz : z < 0
   ·left
    obtain ⟨u, eu⟩ := Er (l := List.set l (Int.toNat k) y) (i := k - 1) om (by rw [List.length_set]; omega)
    refine ⟨(List.set (List.set l (Int.toNat k) y) (Int.toNat (k - 1)) x, k - 1), fun rec => ?_, ⟨by simp [i1], by dsimp only; omega, by dsimp only; omega⟩, by dsimp only; omega⟩
    unfold AP
    dsimp only
    simp only [Av]
    rw [dT hk, cT, ex, bS, w2, ey, bS, ez, bS, dT hz, cT, bS, bS, bS, bS, eu, bS, bS]
   ·right
    refine ⟨l, fun rec => ?_, i1⟩
    unfold AP
    dsimp only
    simp only [Av]
    rw [dT hk, cT, ex, bS, w2, ey, bS, ez, bS, dF hz, cF]
  ·right
   refine ⟨l, fun rec => ?_, i1⟩
   unfold AP
   dsimp only
   simp only [Av]
   rw [dF hk, cF, cF]
 obtain ⟨o, e, ho⟩ := Ci (b := Bo a b f) (fun s => (b - s.2).toNat) (fun s => s.1.length = xs.length ∧ 0 ≤ s.2) (fun o => o.length = xs.length) (by
  rintro ⟨l, k⟩ ⟨i1, i2⟩
  dsimp only at i1 i2
  by_cases hk : k < b
  ·left
   obtain ⟨ys, y1, y2⟩ := inner l k i1 i2 om
   refine ⟨(ys, k + 1), fun rec => ?_, ⟨y2, by dsimp only; omega⟩, by dsimp only; omega⟩
   unfold Bo
   dsimp only
   simp only [Av]
   rw [dT hk, cT, y1, bS, w64 (x := k + 1) om om]
  ·right
   refine ⟨l, fun rec => ?_, i1⟩
   unfold Bo
   dsimp only
   rw [dF hk, cF]) AA (xs, a + 1) ⟨rfl, by dsimp only; omega⟩ (by unfold AA; dsimp only; omega)
 unfold A9
 rw [w64 (x := a + 1) om om, e, bS]
 exact ⟨o, rfl, ho⟩
theorem K6 {xs : List At} {a m b : Int} (hl : xs.length ≤ 1073741824) (ha : 0 ≤ a) (hm : a < m) (hb : m < b) (hbl : b ≤ xs.length) : ∃ ys, B1 xs a m b f = some ys ∧ ys.length = xs.length := by
 unfold B1
 exact Lc hf AA xs a m b hl ha hm hb hbl (by unfold AA; omega)
theorem Sy {xs : List At} (hl : xs.length ≤ 536870912) : ∃ ys, Cf xs (xs.length : Int) f = some ys ∧ ys.length = xs.length := by
 have merge : ∀ (l : List At) (s : Int), l.length = xs.length → 0 < s → s < xs.length → ∃ o, iter (Bu (xs.length : Int) f s) AA (l, (0 : Int), IntKind.wrap .i64 (2 * s)) = some o ∧ o.1.length = xs.length ∧ 0 ≤ o.2 ∧ o.2 ≤ xs.length := by
  intro l s hll hs0 hs1
  have ws : IntKind.wrap .i64 (2 * s) = 2 * s := w64 om om
  rw [ws]
  refine Ci (b := Bu (xs.length : Int) f s) (fun x => (xs.length + 2 * s - x.2.2).toNat) (fun x => x.1.length = xs.length ∧ 0 ≤ x.2.1 ∧ x.2.1 ≤ xs.length ∧ x.2.2 = x.2.1 + 2 * s) (fun o => o.1.length = xs.length ∧ 0 ≤ o.2 ∧ o.2 ≤ xs.length) ?_ AA (l, 0, 2 * s) ⟨hll, Int.le_refl _, by dsimp only; omega, by dsimp only; omega⟩ (by unfold AA; dsimp only; omega)
  rintro ⟨l, a, b⟩ ⟨i1, i2, i3, i4⟩
  dsimp only at i1 i2 i3 i4
  by_cases hb : b ≤ xs.length
  ·left
   obtain ⟨ys, y1, y2⟩ := K6 hf (xs := l) (a := a) (m := a + s) (b := b) om i2 om om om
   refine ⟨(ys, b, b + 2 * s), fun rec => ?_, ⟨y2.trans i1, by dsimp only; omega, by dsimp only; omega, rfl⟩, by dsimp only; omega⟩
   unfold Bu
   dsimp only
   rw [dT hb, cT, w64 (x := a + s) om om, y1, bS, bS, GE y2, bS, ws, w64 (x := b + 2 * s) om om]
  ·right
   refine ⟨(l, a), fun rec => ?_, i1, i2, i3⟩
   unfold Bu
   dsimp only
   rw [dF hb, cF]
 obtain ⟨⟨l0, a0⟩, e0, h0, h01, h02⟩ := Ci (b := BV (xs.length : Int) f) (fun x => (xs.length + 20 - x.2.2).toNat) (fun x => x.1.length = xs.length ∧ 0 ≤ x.2.1 ∧ x.2.1 ≤ xs.length ∧ x.2.2 = x.2.1 + 20) (fun o => o.1.length = xs.length ∧ 0 ≤ o.2 ∧ o.2 ≤ xs.length) (by
  rintro ⟨l, a, b⟩ ⟨i1, i2, i3, i4⟩
  dsimp only at i1 i2 i3 i4
  by_cases hb : b ≤ xs.length
  ·left
   obtain ⟨ys, y1, y2⟩ := Kc hf (xs := l) (a := a) (b := b) om i2 om om om
   refine ⟨(ys, b, b + 20), fun rec => ?_, ⟨y2.trans i1, by dsimp only; omega, by dsimp only; omega, rfl⟩, by dsimp only; omega⟩
   unfold BV
   dsimp only
   rw [dT hb, cT, y1, bS, bS, GE y2, bS, w64 (x := b + 20) om om]
  ·right
   refine ⟨(l, a), fun rec => ?_, i1, i2, i3⟩
   unfold BV
   dsimp only
   rw [dF hb, cF]) AA (xs, (0 : Int), (20 : Int)) ⟨rfl, Int.le_refl _, by dsimp only; omega, rfl⟩ (by unfold AA; dsimp only; omega)
 dsimp only at h0 h01 h02
 obtain ⟨l1, e1, h1⟩ := Kc hf (xs := l0) (a := a0) (b := xs.length) om h01 om om om
 obtain ⟨l2, e2, h2⟩ := Ci (b := Bs (xs.length : Int) f) (fun x => (2 * xs.length + 20 - x.2).toNat) (fun x => x.1.length = xs.length ∧ 0 < x.2 ∧ x.2 ≤ 2 * xs.length + 20) (fun o => o.length = xs.length) (by
  rintro ⟨l, s⟩ ⟨i1, i2, i3⟩
  dsimp only at i1 i2 i3
  by_cases hs : s < xs.length
  ·left
   obtain ⟨⟨l', a'⟩, e', h', h1', h2'⟩ := merge l s i1 i2 hs
   dsimp only at h' h1' h2'
   have w1 : IntKind.wrap .i64 (a' + s) = a' + s := w64 om om
   have w2 : IntKind.wrap .i64 (s * 2) = s * 2 := w64 om om
   by_cases c : a' + s < xs.length
   ·obtain ⟨ys, y1, y2⟩ := K6 hf (xs := l') (a := a') (m := a' + s) (b := xs.length) om h1' om c om
    refine ⟨(ys, s * 2), fun rec => ?_, ⟨y2.trans h', by dsimp only; omega, by dsimp only; omega⟩, by dsimp only; omega⟩
    unfold Bs
    dsimp only
    simp only [Av]
    rw [dT hs, cT, e', bS]
    dsimp only
    rw [w1, dT c, cT, y1, bS, bS, GE y2, bS, w2]
   ·refine ⟨(l', s * 2), fun rec => ?_, ⟨h', by dsimp only; omega, by dsimp only; omega⟩, by dsimp only; omega⟩
    unfold Bs
    dsimp only
    simp only [Av]
    rw [dT hs, cT, e', bS]
    dsimp only
    rw [w1, dF c, cF, w2]
  ·right
   refine ⟨l, fun rec => ?_, i1⟩
   unfold Bs
   dsimp only
   rw [dF hs, cF]) AA (l1, (20 : Int)) ⟨h1.trans h0, by dsimp only; omega, by dsimp only; omega⟩ (by unfold AA; dsimp only; omega)
 unfold Cf
 simp only [Av]
 rw [e0, bS]
 dsimp only
 rw [e1, bS, bS, GE h1, bS, e2, bS]
 exact ⟨l2, rfl, h2⟩
theorem We {xs : List At} (hl : xs.length ≤ 536870912) : ∃ ys, Bp xs f = some ys ∧ ys.length = xs.length := by
 obtain ⟨ys, y1, y2⟩ := Sy hf hl
 unfold Bp
 rw [y1, bS, bS, GE y2, bS]
 exact ⟨ys, rfl, y2⟩
end
theorem LY (a b : LB) : ∃ z, C6 a b = some z := by
 unfold C6 D5
 rw [bS, bS]
 cases (!(a == a)) <;> cases (!(b == b)) <;> cases Op.bytesLess a b <;> cases (a == b) <;> exact ⟨_, rfl⟩
theorem bG (a b : Int) : ∃ z, F0 [a, b] = some z := by
 obtain ⟨o, e, _⟩ := CA (b := Fw [a, b]) (fun i x => x = (i : Int)) (fun _ => True) 2 (x0 := (0 : Int)) rfl (by
  rintro i _ rec hi rfl
  unfold Fw
  have hi2 : i < ([a, b] : List Int).length := hi
  rw [dT (show (i : Int) < (([a, b] : List Int).length : Int) by omega), cT, Bw hi2, bS]
  cases ([a, b] : List Int)[i] != 0 with
  | true => exact .inr ⟨_, rfl, trivial⟩
  | false => exact .inl ⟨_, rfl, by rw [w64 om om]; omega⟩) (by
  rintro _ rec rfl
  exact ⟨_, rfl, trivial⟩) (n := AA) (by unfold AA; omega)
 unfold F0
 simp only [Av]
 rw [e, bS]
 cases o <;> exact ⟨_, rfl⟩
theorem XX (x y : At) : ∃ z, Dr x y = some z := by
 unfold Dr
 obtain ⟨a, ha⟩ := LY x.Name.URI y.Name.URI
 obtain ⟨b, hb⟩ := LY x.Name.Local y.Name.Local
 obtain ⟨c, hc⟩ := bG a b
 rw [ha, bS, hb, bS, hc, bS]
 exact ⟨_, rfl⟩
theorem Ll {p : TP} (h : p.Name.length ≤ 1073741824) : ∃ r, D0 p = some r := by
 unfold D0
 obtain ⟨r, hr⟩ := Ix p.Name h
 rw [hr, bS]
 cases (r.2.2 && (r.1 == ([120, 109, 108, 110, 115] : LB))) <;> cases (p.Name == ([120, 109, 108, 110, 115] : LB)) <;> exact ⟨_, rfl⟩
theorem Vj (p u : LB) : ∃ e, Fp p u = some e := by
 unfold Fp
 simp only [Av]
 cases (p == ([120, 109, 108, 110, 115] : LB)) with
 | true => exact ⟨_, rfl⟩
 | false =>
  rw [cF]
  cases (u == SPN) with
  | true => exact ⟨_, rfl⟩
  | false =>
   rw [cF]
   cases (!((p == BX) == (u == SPX))) <;> cases ((!(p == ([] : LB))) && (u == ([] : LB))) <;> cases (decide ((100 : Int) < (u.length : Int))) <;> exact ⟨_, rfl⟩
theorem Qg {h : List LB} {p : LB} (hl : h.length ≤ 1073741824) : ∃ b, Ce h p = some b := by
 unfold Ce CY
 obtain ⟨o, e, _⟩ := CA (b := Cd h p) (fun i x => x = (i : Int)) (fun _ => True) h.length (x0 := (0 : Int)) rfl (by
  rintro i _ rec hi rfl
  unfold Cd
  rw [dT (show (i : Int) < (h.length : Int) by omega), cT, Bw hi, bS]
  cases (p == h[i]) with
  | true => exact .inr ⟨_, rfl, trivial⟩
  | false => exact .inl ⟨_, rfl, by rw [w64 om om]; omega⟩) (by
  rintro _ rec rfl
  unfold Cd
  rw [dF om, cF]
  exact ⟨_, rfl, trivial⟩) (n := AA) (by unfold AA; omega)
 simp only [Av]
 rw [e, bS]
 cases o <;> exact ⟨_, rfl⟩
theorem Sr {h : List Ag} {p : LB} (hl : h.length ≤ 1099511627776) : ∃ b, Bn h (fun z0 => Ca z0 p) = some b ∧ b.length ≤ h.length := by
 unfold Bn BY
 obtain ⟨o, e, ho⟩ := CA (b := Be h (fun z0 => Ca z0 p)) (fun i x => x = (i : Int)) (fun o => o = .inl () ∨ ∃ k : Nat, o = .inr (k : Int) ∧ k < h.length) h.length (x0 := (0 : Int)) rfl (by
  rintro i _ rec hi rfl
  unfold Be Ca
  rw [dT (show (i : Int) < (h.length : Int) by omega), cT, Bw hi, bS]
  dsimp only
  rw [bS]
  cases ((h[i]).prefix_ == p) with
  | true => exact .inr ⟨_, rfl, .inr ⟨i, rfl, hi⟩⟩
  | false => exact .inl ⟨_, rfl, by rw [w64 om om]; omega⟩) (by
  rintro _ rec rfl
  unfold Be
  rw [dF om, cF]
  exact ⟨_, rfl, .inl rfl⟩) (n := AA) (by unfold AA; omega)
 simp only [Av]
 rw [e, bS]
 rcases ho with rfl | ⟨k, rfl, hk⟩
 ·exact ⟨h, rfl, Nat.le_refl _⟩
 ·dsimp only
  rw [bS, show ((k : Int) == -1) = false by rw [bn]; omega, cF]
  obtain ⟨⟨a, j⟩, e2, h1, h2, h3⟩ := Ci (b := AS (fun z0 => Ca z0 p)) (fun s => (h.length - s.2.2).toNat) (fun s => s.1.length = h.length ∧ 0 ≤ s.2.1 ∧ s.2.1 < s.2.2 ∧ s.2.2 ≤ h.length) (fun o => o.1.length = h.length ∧ 0 ≤ o.2 ∧ o.2 < h.length) (by
   rintro ⟨l, i, j⟩ ⟨i1, i2, i3, i4⟩
   dsimp only at i1 i2 i3 i4
   by_cases hj : j < h.length
   ·left
    obtain ⟨x, ex⟩ := Er (l := l) (i := j) om om
    obtain ⟨y, ey⟩ := Er (l := l) (i := i) om om
    have w1 : IntKind.wrap .i64 (j + 1) = j + 1 := w64 om om
    have w2 : IntKind.wrap .i64 (i + 1) = i + 1 := w64 om om
    cases hx : (x.prefix_ == p) with
    | true =>
     refine ⟨(l, i, j + 1), fun rec => ?_, ⟨i1, i2, by dsimp only; omega, by dsimp only; omega⟩, by dsimp only; omega⟩
     unfold AS Ca
     dsimp only
     simp only [Av]
     rw [dT (show j < (l.length : Int) by omega), cT, ex, bS, hx, bS, bT, cF, w1]
    | false =>
     refine ⟨(List.set l (Int.toNat i) x, i + 1, j + 1), fun rec => ?_, ⟨by simp [i1], by dsimp only; omega, by dsimp only; omega, by dsimp only; omega⟩, by dsimp only; omega⟩
     unfold AS Ca
     dsimp only
     simp only [Av]
     rw [dT (show j < (l.length : Int) by omega), cT, ex, bS, hx, bS, bF, cT, ey, bS, bS, w1, w2]
   ·right
    refine ⟨(l, i), fun rec => ?_, i1, i2, by dsimp only; omega⟩
    unfold AS
    dsimp only
    rw [dF (show ¬ j < (l.length : Int) by omega), cF]) AA (h, (k : Int), (k : Int) + 1) ⟨rfl, by dsimp only; omega, by dsimp only; omega, by dsimp only; omega⟩ (by unfold AA; dsimp only; omega)
  dsimp only at h1 h2 h3
  rw [w64 (x := (k : Int) + 1) om om, e2, bS]
  dsimp only
  have hs : slc a j (a.length : Int) = some (List.take (((a.length : Int)).toNat - j.toNat) (a.drop j.toNat)) := by
   unfold slc; rw [if_pos om]
  rw [hs, bS, show ltL j a.length = some () by unfold ltL; rw [if_pos om], bS]
  exact ⟨_, rfl, by rw [List.length_take]; omega⟩
theorem Yq {s : List Ag} {ps : List TP} (hs : s.length ≤ 8589934592) (hp : ps.length ≤ 65600) (hn : ∀ p ∈ ps, p.Name.length ≤ 1073741824) : ∃ s' e, CD ⟨s⟩ ps = some (⟨s'⟩, e) ∧ s'.length ≤ s.length + ps.length := by
 obtain ⟨o, e, ho⟩ := CA (b := Dp ps) (fun i x => x.2.2.2 = (i : Int) ∧ x.2.1.length ≤ i ∧ x.2.2.1.length ≤ s.length + i) (fun o => match o with | .inl x => x.2.length ≤ s.length + ps.length | .inr x => x.1.binds.length ≤ s.length + ps.length) ps.length (x0 := (([] : List Ag), ([] : List LB), s, (0 : Int))) ⟨rfl, by simp, by simp⟩ (by
  rintro i ⟨c, had, b, j⟩ rec hi ⟨h1, h2, h3⟩
  dsimp only at h1 h2 h3
  subst h1
  obtain ⟨d, hd⟩ := Ll (hn ps[i] (List.getElem_mem hi))
  obtain ⟨we, hw⟩ := Vj d.1 (ps[i]).Value
  have w1 : IntKind.wrap .i64 ((i : Int) + 1) = ((i + 1 : Nat) : Int) := by rw [w64 om om]; omega
  unfold Dp
  dsimp only
  simp only [Av]
  rw [dT (show (i : Int) < (ps.length : Int) by omega), cT, Bw hi, bS, hd, bS, w1]
  cases hdd : d.2 with
  | false => exact .inl ⟨_, rfl, rfl, by dsimp only; omega, by dsimp only; omega⟩
  | true =>
   rw [bT, cF, hw, bS]
   cases hwe : (we != 0) with
   | true => exact .inr ⟨_, rfl, by simp⟩
   | false =>
    obtain ⟨ct, hct⟩ := Qg (h := had) (p := d.1) om
    rw [cF, hct, bS]
    cases ct with
    | true => exact .inr ⟨_, rfl, by simp⟩
    | false =>
     obtain ⟨b', hb', hbl⟩ := Sr (h := b) (p := d.1) om
     rw [cF, Ct so so, bS, hb', bS]
     cases ((!(d.1 == ([120, 109, 108] : LB))) && (!((ps[i]).Value == ([] : LB)))) with
     | true =>
      rw [cT, Ct so so, bS, bS]
      exact .inl ⟨_, rfl, rfl, by simp; omega, by simp; omega⟩
     | false => exact .inl ⟨_, rfl, rfl, by simp; omega, by dsimp only; omega⟩) (by
  rintro ⟨c, had, b, j⟩ rec ⟨h1, h2, h3⟩
  dsimp only at h1 h2 h3
  subst h1
  unfold Dp
  dsimp only
  rw [dF om, cF]
  exact ⟨_, rfl, h3⟩) (n := AA) (by unfold AA; omega)
 unfold CD
 dsimp only
 rw [Ct so so, bS, List.nil_append]
 simp only [Av]
 rw [e, bS]
 cases o with
 | inl x => exact ⟨_, _, rfl, ho⟩
 | inr x => exact ⟨x.1.binds, x.2, rfl, ho⟩
theorem Va {s : List Ag} (p : LB) (hs : s.length ≤ 1099511627776) : ∃ r, DR ⟨s⟩ p = some r := by
 unfold DR
 cases (p == ([120, 109, 108] : LB)) with
 | true => exact ⟨_, rfl⟩
 | false =>
  rw [cF]
  obtain ⟨o, e, _⟩ := CA (b := Df ⟨s⟩ p) (fun i x => x = (i : Int)) (fun _ => True) s.length (x0 := (0 : Int)) rfl (by
   rintro i _ rec hi rfl
   unfold Df
   dsimp only
   rw [dT (show (i : Int) < (s.length : Int) by omega), cT, Bw hi, bS]
   cases ((s[i]).prefix_ == p) with
   | true => exact .inr ⟨_, rfl, trivial⟩
   | false => exact .inl ⟨_, rfl, by rw [w64 om om]; omega⟩) (by
   rintro _ rec rfl
   unfold Df
   dsimp only
   rw [dF om, cF]
   exact ⟨_, rfl, trivial⟩) (n := AA) (by unfold AA; omega)
  simp only [Av]
  rw [e, bS]
  cases o <;> exact ⟨_, rfl⟩
theorem LU {s : List Ag} {q : LB} (hs : s.length ≤ 1099511627776) (hq : q.length ≤ 1073741824) : ∃ r, Cg ⟨s⟩ q = some r := by
 unfold Cg
 obtain ⟨x, hx⟩ := Ix q hq
 obtain ⟨y, hy⟩ := Va x.1 hs
 rw [hx, bS]
 cases (!x.2.2) with
 | true => exact ⟨_, rfl⟩
 | false =>
  rw [cF]
  cases (x.1 == ([120, 109, 108, 110, 115] : LB)) with
  | true => exact ⟨_, rfl⟩
  | false =>
   rw [cF, hy, bS]
   cases (!y.2) <;> exact ⟨_, rfl⟩
theorem Vd {s : List Ag} {ps : List TP} (hs : s.length ≤ 1099511627776) (hp : ps.length ≤ 65600) (hn : ∀ p ∈ ps, p.Name.length ≤ 1073741824) : ∃ l e, CQ ⟨s⟩ ps = some (l, e) ∧ l.length ≤ ps.length := by
 obtain ⟨o, e, ho⟩ := CA (b := Dd ⟨s⟩ ps) (fun i x => x.2 = (i : Int) ∧ x.1.length ≤ i) (fun o => match o with | .inl x => x.length ≤ ps.length | .inr x => x.1 = []) ps.length (x0 := (([] : List Ab), (0 : Int))) ⟨rfl, by simp⟩ (by
  rintro i ⟨a, j⟩ rec hi ⟨h1, h2⟩
  dsimp only at h1 h2
  subst h1
  have hnm := hn ps[i] (List.getElem_mem hi)
  obtain ⟨d, hd⟩ := Ll hnm
  obtain ⟨el, hel⟩ := LU (s := s) hs hnm
  obtain ⟨sp, hsp⟩ := Ix (ps[i]).Name hnm
  have w1 : IntKind.wrap .i64 ((i : Int) + 1) = ((i + 1 : Nat) : Int) := by rw [w64 om om]; omega
  unfold Dd
  dsimp only
  simp only [Av]
  rw [dT (show (i : Int) < (ps.length : Int) by omega), cT, Bw hi, bS, hd, bS, w1]
  cases d.2 with
  | true => exact .inl ⟨_, rfl, rfl, by dsimp only; omega⟩
  | false =>
   rw [cF, hel, bS]
   cases (el.2 != 0) with
   | true => exact .inr ⟨_, rfl, rfl⟩
   | false =>
    rw [cF, hsp, bS]
    cases (sp.1 == ([] : LB)) with
    | true =>
     rw [cT, Ct so so, bS, bS]
     exact .inl ⟨_, rfl, rfl, by simp; omega⟩
    | false =>
     rw [cF, Ct so so, bS, bS]
     exact .inl ⟨_, rfl, rfl, by simp; omega⟩) (by
  rintro ⟨a, j⟩ rec ⟨h1, h2⟩
  dsimp only at h1 h2
  subst h1
  unfold Dd
  dsimp only
  rw [dF om, cF]
  exact ⟨_, rfl, h2⟩) (n := AA) (by unfold AA; omega)
 unfold CQ
 simp only [Av]
 rw [e, bS]
 cases o with
 | inr x => exact ⟨x.1, x.2, rfl, by rw [show x.1 = [] from ho]; simp⟩
 | inl a =>
  dsimp only at ho ⊢
  obtain ⟨ys, y1, y2⟩ := We XX (xs := a) om
  rw [y1, bS, bS, GE y2, bS]
  obtain ⟨o2, e2, ho2⟩ := CA (b := De ys) (fun i x => x = (i : Int)) (fun o => match o with | .inl _ => True | .inr x => x.1 = []) ys.length (x0 := (0 : Int)) rfl (by
   rintro i _ rec hi rfl
   have w1 : IntKind.wrap .i64 ((i : Int) + 1) = ((i + 1 : Nat) : Int) := by rw [w64 om om]; omega
   unfold De
   simp only [Av]
   rw [dT (show (i : Int) < (ys.length : Int) by omega), cT, w1]
   by_cases h0 : 0 < i
   ·obtain ⟨x, ex⟩ := Er (l := ys) (i := (i : Int) - 1) om om
    rw [dT (show (0 : Int) < (i : Int) by omega), cT, Bw hi, bS, w64 (x := (i : Int) - 1) om om, ex, bS]
    cases (((ys[i]).Name.URI == x.Name.URI) && (((ys[i]).Name.Local == x.Name.Local) && true)) with
    | true => exact .inr ⟨_, rfl, rfl⟩
    | false => exact .inl ⟨_, rfl, rfl⟩
   ·rw [dF (show ¬ (0 : Int) < (i : Int) by omega), cF]
    exact .inl ⟨_, rfl, rfl⟩) (by
   rintro _ rec rfl
   unfold De
   rw [dF om, cF]
   exact ⟨_, rfl, trivial⟩) (n := AA) (by unfold AA; omega)
  rw [e2, bS]
  cases o2 with
  | inl _ => exact ⟨ys, 0, rfl, by omega⟩
  | inr x => exact ⟨x.1, x.2, rfl, by rw [show x.1 = [] from ho2]; simp⟩
structure RI (k : Nat) (r : Rdr) : Prop where
 ne : r.open_ ≠ []
 len : r.open_.length ≤ 34
 n0 : 0 ≤ r.nodes
 n1 : r.nodes ≤ k
 op : ∀ o ∈ r.open_, o.node.Kids.length ≤ k ∧ o.in_.binds.length ≤ 65600 * k ∧ ∀ x ∈ o.node.Kids, x.Text.length ≤ 8192
 tx : ∀ o ∈ r.open_, o.node.Text = []
structure Fit (t : Tk) : Prop where
 k : t.Kind = 1 ∨ t.Kind = 2 ∨ t.Kind = 3 ∨ t.Kind = 4 ∨ t.Kind = 5 ∨ t.Kind = 6 ∨ t.Kind = 7 ∨ t.Kind = 8
 ps : t.Pairs.length ≤ 65600
 nm : t.Kind = 2 ∨ t.Kind = 4 → t.Name.length ≤ 65536 ∧ ∀ p ∈ t.Pairs, p.Name.length ≤ 65536
 tx : t.Text.length ≤ 262144
theorem RI.mono {k : Nat} {r : Rdr} (h : RI k r) : RI (k + 1) r := ⟨h.ne, h.len, h.n0, by have := h.n1; omega, fun o ho => ⟨by have := (h.op o ho).1; omega, by have := (h.op o ho).2.1; omega, (h.op o ho).2.2⟩, h.tx⟩
theorem W0 (b : Op) (x : Nd) : (kid b x).node.Kids = b.node.Kids ++ [x] := rfl
theorem RI.kid {k : Nat} {b : Op} {l : List Op} {n : Int} {d d' : Bool} {x : Nd} (h : RI k ⟨b :: l, n, d⟩) (hx : x.Text.length ≤ 8192) : RI (k + 1) ⟨kid b x :: l, n + 1, d'⟩ := by
 obtain ⟨h1, h2, h3, h4, h5, h6⟩ := h
 dsimp only at h1 h2 h3 h4 h5 h6
 refine ⟨by simp, by simpa using h2, by dsimp only; omega, by dsimp only; omega, fun o ho => ?_, fun o ho => by
  rcases List.mem_cons.1 ho with rfl | ho
  ·exact h6 b List.mem_cons_self
  ·exact h6 o (List.mem_cons_of_mem _ ho)⟩
 rcases List.mem_cons.1 ho with rfl | ho
 ·obtain ⟨a1, a2, a3⟩ := h5 b List.mem_cons_self
  rw [W0]
  refine ⟨by simp; omega, by show b.in_.binds.length ≤ _; omega, fun y hy => ?_⟩
  rcases List.mem_append.1 hy with hy | hy
  ·exact a3 y hy
  ·rw [List.mem_singleton.1 hy]; exact hx
 ·obtain ⟨a1, a2, a3⟩ := h5 o (List.mem_cons_of_mem _ ho)
  exact ⟨by omega, by omega, a3⟩
theorem RI.nodes {k : Nat} {l : List Op} {n m : Int} {d d' : Bool} (h : RI k ⟨l, n, d⟩) (h0 : 0 ≤ m) (h1 : m ≤ k) : RI k ⟨l, m, d'⟩ := ⟨h.ne, h.len, h0, h1, h.op, h.tx⟩
theorem RI.close {k : Nat} {a b : Op} {l : List Op} {n : Int} {d d' : Bool} (h : RI k ⟨a :: b :: l, n, d⟩) : RI (k + 1) ⟨Go.Proofs.YtilhbalhkljanaaGreatDoor.kid b a.node :: l, n, d'⟩ := by
 have h' : RI k ⟨b :: l, n, d⟩ := ⟨by simp, by have := h.len; simp at this ⊢; omega, h.n0, h.n1, fun o ho => h.op o (List.mem_cons_of_mem _ ho), fun o ho => h.tx o (List.mem_cons_of_mem _ ho)⟩
 have := RI.kid (d' := d') (x := a.node) h' (by rw [h.tx a List.mem_cons_self]; simp)
 exact RI.nodes this h.n0 (by have := h.n1; dsimp only at this; omega)
mutual
def szN (a : Nat) : Ac → Nat
 | ⟨_, _, av, ks, _⟩ => 1 + a * av.length + szL a ks
def szL (a : Nat) : List Ac → Nat
 | [] => 0
 | k :: ks => szN a k + szL a ks
end
theorem EE (a : Nat) (x : Nd) : szN a x = 1 + a * x.Attrs.length + szL a x.Kids := by cases x; rfl
theorem JT (a : Nat) : ∀ xs ys : List Nd, szL a (xs ++ ys) = szL a xs + szL a ys
 | [], ys => by simp [szL]
 | x :: xs, ys => by show szN a x + szL a (xs ++ ys) = szN a x + szL a xs + szL a ys; rw [JT a xs ys]; omega
theorem K9 (a : Nat) : ∀ {xs : List Nd} {x : Nd}, x ∈ xs → szN a x ≤ szL a xs
 | y :: ys, x, h => by
  show _ ≤ szN a y + szL a ys
  rcases List.mem_cons.1 h with rfl | h
  ·omega
  ·have := K9 a h; omega
theorem PO (a : Nat) : ∀ xs : List Nd, xs.length ≤ szL a xs
 | [] => Nat.zero_le _
 | x :: xs => by
  show _ ≤ szN a x + szL a xs
  have := PO a xs
  have := EE a x
  rw [lC]; omega
def szS (a : Nat) : List Op → Nat
 | [] => 0
 | o :: l => szN a o.node + szS a l
structure Grow (r r' : Rdr) : Prop where
 n : r.nodes ≤ r'.nodes
 w0 : (szS 0 r'.open_ : Int) - r'.nodes = szS 0 r.open_ - r.nodes
 w1 : szS 1 r'.open_ ≤ szS 1 r.open_ + 65601
theorem Grow.refl (r : Rdr) : Grow r r := ⟨Int.le_refl _, rfl, by omega⟩
theorem MH (a : Nat) (b : Op) (x : Nd) : szN a (kid b x).node = szN a b.node + szN a x := by
 rw [EE, EE a b.node]
 show 1 + a * b.node.Attrs.length + szL a (b.node.Kids ++ [x]) = _
 rw [JT]
 show _ + (_ + (szN a x + 0)) = _
 omega
theorem Grow.kid {b : Op} {l : List Op} {n : Int} {d d' : Bool} {x : Nd} (h1 : x.Kids = []) (h2 : x.Attrs.length ≤ 65600) : Grow ⟨b :: l, n, d⟩ ⟨Go.Proofs.YtilhbalhkljanaaGreatDoor.kid b x :: l, n + 1, d'⟩ := by
 have e0 := MH 0 b x
 have e1 := MH 1 b x
 have x0 := EE 0 x
 have x1 := EE 1 x
 rw [h1] at x0 x1
 have z0 : szL 0 ([] : List Nd) = 0 := rfl
 have z1 : szL 1 ([] : List Nd) = 0 := rfl
 refine ⟨by dsimp only; omega, ?_, ?_⟩
 ·show ((szN 0 _ + szS 0 l : Nat) : Int) - (n + 1) = ((szN 0 b.node + szS 0 l : Nat) : Int) - n
  omega
 ·show szN 1 _ + szS 1 l ≤ szN 1 b.node + szS 1 l + 65601
  omega
theorem Grow.close {a b : Op} {l : List Op} {n : Int} {d d' : Bool} : Grow ⟨a :: b :: l, n, d⟩ ⟨Go.Proofs.YtilhbalhkljanaaGreatDoor.kid b a.node :: l, n, d'⟩ := by
 have e0 := MH 0 b a.node
 have e1 := MH 1 b a.node
 refine ⟨Int.le_refl _, ?_, ?_⟩
 ·show ((szN 0 _ + szS 0 l : Nat) : Int) - n = ((szN 0 a.node + (szN 0 b.node + szS 0 l) : Nat) : Int) - n
  omega
 ·show szN 1 _ + szS 1 l ≤ szN 1 a.node + (szN 1 b.node + szS 1 l) + 65601
  omega
theorem Grow.open {a : Op} {o : List Op} {n : Int} {d : Bool} (h1 : a.node.Kids = []) (h2 : a.node.Attrs.length ≤ 65600) : Grow ⟨o, n, d⟩ ⟨a :: o, n + 1, d⟩ := by
 have x0 := EE 0 a.node
 have x1 := EE 1 a.node
 rw [h1] at x0 x1
 have z0 : szL 0 ([] : List Nd) = 0 := rfl
 have z1 : szL 1 ([] : List Nd) = 0 := rfl
 refine ⟨by dsimp only; omega, ?_, ?_⟩
 ·show ((szN 0 a.node + szS 0 o : Nat) : Int) - (n + 1) = (szS 0 o : Int) - n
  omega
 ·show szN 1 a.node + szS 1 o ≤ szS 1 o + 65601
  omega
def GR (t : Tk) : Bool := (t.Kind == 6) || decide (0 < t.Refs) || !(Lib.trimS t.Text [32, 9, 10, 13] == [])
theorem Ih {b : Op} {n : Int} {d : Bool} {t : Tk} (h : t.Text.length ≤ 262144) : AN ⟨[b], n, d⟩ t = some (if GR t = true then 30 else 0, ⟨[b], n, d⟩) := by
 have ht : G5 t.Text [32, 9, 10, 13] = some (Lib.trimS t.Text [32, 9, 10, 13]) := by
  unfold G5; rw [if_pos ⟨by omega, by decide, by decide⟩]
 unfold AN GR
 dsimp only
 rw [show ((([b] : List Op).length : Int) == 1) = true from rfl, cT]
 simp only [Av]
 rw [ht]
 cases ((t.Kind == (6 : Int)) || (decide ((0 : Int) < t.Refs))) with
 | true => rfl
 | false =>
  rw [cF, bS]
  cases (!(Lib.trimS t.Text [32, 9, 10, 13] == ([] : LB))) <;> rfl
def DB (pre : List Nd) : List Op → List Op
 | [] => []
 | [b] => [⟨⟨b.node.Kind, b.node.Name, b.node.Attrs, pre ++ b.node.Kids, b.node.Text⟩, b.raw, b.in_⟩]
 | a :: b :: l => a :: DB pre (b :: l)
def Fc (pre : List Nd) (m : Int) (r : Rdr) : Rdr := ⟨DB pre r.open_, r.nodes + m, r.done⟩
theorem CU (pre : List Nd) : ∀ l, (DB pre l).length = l.length
 | [] => rfl
 | [_] => rfl
 | _ :: b :: l => by show (DB pre (b :: l)).length + 1 = _; rw [CU pre (b :: l)]; rfl
theorem Sb (pre : List Nd) (a : Op) {l : List Op} (h : l ≠ []) : DB pre (a :: l) = a :: DB pre l := by
 cases l with
 | nil => exact absurd rfl h
 | cons b l => rfl
theorem GV (pre : List Nd) (b : Op) (l : List Op) : ∃ b', DB pre (b :: l) = b' :: DB pre l ∧ b'.in_ = b.in_ ∧ b'.raw = b.raw ∧ b'.node.Text = b.node.Text ∧ (l ≠ [] → b' = b) ∧ b'.node.Kids.length ≤ pre.length + b.node.Kids.length ∧ ∀ x, DB pre (kid b x :: l) = kid b' x :: DB pre l := by
 cases l with
 | nil => exact ⟨_, rfl, rfl, rfl, rfl, fun h => absurd rfl h, by simp, fun x => by simp [DB, kid]⟩
 | cons c l => exact ⟨b, rfl, rfl, rfl, rfl, fun _ => rfl, by omega, fun x => rfl⟩
def Re (y : Option (Int × Rdr)) : Prop := ∃ e r, y = some (e, r) ∧ e ≠ 0
def Step0 (k : Nat) (pre : List Nd) (m : Int) (r : Rdr) (x : Option (Int × Rdr)) (y : Option (Int × Rdr)) : Prop :=
 ∃ e r', x = some (e, r') ∧ (e = 0 → RI (k + 1) r' ∧ Grow r r' ∧ y = some (0, Fc pre m r')) ∧ (e ≠ 0 → Re y)
def dk (k : Nat) (pre : List Nd) (m : Int) (r : Rdr) (x : Option (Int × Rdr)) (y : Option (Int × Rdr)) : Prop :=
 ∃ e r', x = some (e, r') ∧ (e = 0 → RI (k + 1) r' ∧ Grow r r' ∧ (r'.nodes + m ≤ 2000 → y = some (0, Fc pre m r')) ∧ (2000 < r'.nodes + m → Re y)) ∧ (e ≠ 0 → Re y)
theorem Step0.fin {k : Nat} {pre : List Nd} {m : Int} (hm : 0 ≤ m) {r : Rdr} {x y : Option (Int × Rdr)} (h : Step0 k pre m r x y) : dk k pre m r (x.bind fun z => some (fin z)) (y.bind fun z => some (fin z)) := by
 obtain ⟨e, r', rfl, h, hf⟩ := h
 rw [bS]
 by_cases he : e = 0
 ·subst he
  obtain ⟨h1, h2, h3⟩ := h rfl
  rw [h3, bS]
  by_cases hn : 2000 < r'.nodes
  ·exact ⟨_, _, by rw [P0 hn], fun h => (by cases h), fun _ => ⟨5, _, by rw [P0 (by show 2000 < r'.nodes + m; omega)], by decide⟩⟩
  ·exact ⟨_, _, by rw [P7 om], fun _ => ⟨h1, h2, fun h4 => by rw [P7 (by show r'.nodes + m ≤ 2000; exact h4)], fun h4 => ⟨5, _, by rw [P0 (by show 2000 < r'.nodes + m; exact h4)], by decide⟩⟩, fun h => absurd rfl h⟩
 ·obtain ⟨e', r'', rfl, he'⟩ := hf he
  exact ⟨e, r', by unfold Go.Proofs.YtilhbalhkljanaaGreatDoor.fin; rw [if_neg (fun h => he h.1)], fun h => absurd h he, fun _ => ⟨e', r'', by rw [bS]; unfold Go.Proofs.YtilhbalhkljanaaGreatDoor.fin; rw [if_neg (fun h => he' h.1)], he'⟩⟩
section
variable {k : Nat} {pre : List Nd} {m : Int} (hm0 : 0 ≤ m) (hm1 : m ≤ 1000) (hpre : pre.length ≤ 1000) (hk : k ≤ 70000)
include hm0 hm1 hpre hk
theorem RR {r : Rdr} (h : RI k r) (x : Nd) (x1 : x.Kids = []) (x2 : x.Attrs = []) : Step0 k pre m r (A0 r x) (A0 (Fc pre m r) x) := by
 obtain ⟨o, n, d⟩ := r
 cases o with
 | nil => exact absurd rfl h.ne
 | cons b l =>
  obtain ⟨a1, a2, a3⟩ := h.op b List.mem_cons_self
  have hlen := h.len
  have hn0 := h.n0
  have hn1 := h.n1
  dsimp only at hlen hn0 hn1
  simp only [lC] at hlen
  rw [Lv x om om hn0 om]
  obtain ⟨b', e1, _, _, _, _, e5, e6⟩ := GV pre b l
  have eL : Fc pre m ⟨b :: l, n, d⟩ = ⟨b' :: DB pre l, n + m, d⟩ := by show (⟨DB pre (b :: l), n + m, d⟩ : Rdr) = _; rw [e1]
  rw [eL, Lv x (by rw [CU]; omega) om om om]
  by_cases hx : 8192 < x.Text.length
  ·exact ⟨5, _, by rw [if_pos hx], fun h => (by cases h), fun _ => ⟨5, _, by rw [if_pos hx], by decide⟩⟩
  ·refine ⟨0, _, by rw [if_neg hx], fun _ => ⟨h.kid om, Grow.kid x1 (by rw [x2]; simp), ?_⟩, fun h => absurd rfl h⟩
   rw [if_neg hx]
   show some _ = some ((0 : Int), (⟨DB pre (kid b x :: l), (n + 1) + m, d⟩ : Rdr))
   rw [e6, show n + 1 + m = n + m + 1 by omega]
theorem Sw {a b : Op} {l : List Op} {n : Int} {d : Bool} (h : RI k ⟨a :: b :: l, n, d⟩) : ∃ r', Ba ⟨a :: b :: l, n, d⟩ = some r' ∧ RI (k + 1) r' ∧ Grow ⟨a :: b :: l, n, d⟩ r' ∧ Ba (Fc pre m ⟨a :: b :: l, n, d⟩) = some (Fc pre m r') := by
 obtain ⟨a1, a2, a3⟩ := h.op b (by simp)
 have hlen := h.len
 simp only [lC] at hlen
 refine ⟨_, Lf om om, h.close, Grow.close, ?_⟩
 obtain ⟨b', e1, _, _, _, _, e5, e6⟩ := GV pre b l
 show Ba ⟨DB pre (a :: b :: l), n + m, d⟩ = _
 rw [Sb pre a (by simp), e1, Lf (by rw [CU]; omega) om]
 show some _ = some (⟨DB pre (kid b a.node :: l), n + m, d || decide (l.length = 0)⟩ : Rdr)
 rw [e6, CU]
theorem MO {r : Rdr} {t : Tk} (h : RI k r) (ft : Fit t) (h24 : t.Kind = 2 ∨ t.Kind = 4) : ∃ e r', AE r t = some (e, r') ∧ (e = 0 → ∃ a, r' = ⟨a :: r.open_, r.nodes + 1, r.done⟩ ∧ a.node.Attrs.length ≤ 65600 ∧ a.node.Kids = [] ∧ RI (k + 1) r' ∧ AE (Fc pre m r) t = some (0, Fc pre m r')) ∧ (e ≠ 0 → Re (AE (Fc pre m r) t)) := by
 obtain ⟨o, n, d⟩ := r
 cases o with
 | nil => exact absurd rfl h.ne
 | cons b l =>
  obtain ⟨a1, a2, a3⟩ := h.op b List.mem_cons_self
  have hlen := h.len
  have hn0 := h.n0
  have hn1 := h.n1
  dsimp only at hlen hn0 hn1
  simp only [lC] at hlen
  obtain ⟨hnm, hpn⟩ := ft.nm h24
  have hps := ft.ps
  by_cases c1 : l.length = 0 ∧ d = true
  ·have key : ∀ (b : Op) (l : List Op) (n : Int), l.length = 0 → AE ⟨b :: l, n, true⟩ t = some (30, ⟨b :: l, n, true⟩) := by
    intro b l n hl
    unfold AE
    simp only [Av]
    rw [show (((b :: l).length : Int) == 1) = true by simp; omega, cT, cT]
   obtain ⟨c0, rfl⟩ := c1
   obtain ⟨b', e1, _⟩ := GV pre b l
   refine ⟨30, _, key b l n c0, fun h => (by cases h), fun _ => ⟨30, ⟨b' :: DB pre l, n + m, true⟩, ?_, by decide⟩⟩
   show AE ⟨DB pre (b :: l), n + m, true⟩ t = _
   rw [e1]
   exact key b' _ _ (by rw [CU]; exact c0)
  obtain ⟨b', e1, e2, e3, e4, e5, e6, _⟩ := GV pre b l
  have eL : Fc pre m ⟨b :: l, n, d⟩ = ⟨b' :: DB pre l, n + m, d⟩ := by show (⟨DB pre (b :: l), n + m, d⟩ : Rdr) = _; rw [e1]
  rw [eL]
  have c1' : ¬ ((DB pre l).length = 0 ∧ d = true) := by rw [CU]; exact c1
  obtain ⟨s', e, hO, hs'⟩ := Yq (s := b.in_.binds) (ps := t.Pairs) om hps (fun p hp => by have := hpn p hp; omega)
  have hO1 : CD b.in_ t.Pairs = some (⟨s'⟩, e) := hO
  obtain ⟨q, hE⟩ := LU (s := s') (q := t.Name) om om
  obtain ⟨v, ve, hA, hv⟩ := Vd (s := s') (ps := t.Pairs) om hps (fun p hp => by have := hpn p hp; omega)
  have kL := O9 (a := b') (l := DB pre l) (n := n + m) (d := d) t (by rw [CU]; omega) c1'
  rw [e2, hO1, CU] at kL
  rw [O9 t om c1, hO1]
  by_cases c2 : 32 < l.length
  ·rw [dT (show (32 : Int) < (l.length : Int) by omega), cT] at kL ⊢
   exact ⟨31, _, rfl, fun h => (by cases h), fun _ => ⟨31, _, kL, by decide⟩⟩
  rw [dF (show ¬ (32 : Int) < (l.length : Int) by omega), cF, bS] at kL ⊢
  dsimp only at kL ⊢
  by_cases c3 : e = 0
  case neg =>
   rw [show (e != 0) = true by simpa using c3, cT] at kL ⊢
   exact ⟨e, _, rfl, fun h => absurd h c3, fun _ => ⟨e, _, kL, c3⟩⟩
  rw [show (e != 0) = false by simpa using c3, cF, hE, bS] at kL ⊢
  by_cases c4 : q.2 = 0
  case neg =>
   rw [show (q.2 != 0) = true by simpa using c4, cT] at kL ⊢
   exact ⟨q.2, _, rfl, fun h => absurd h c4, fun _ => ⟨q.2, _, kL, c4⟩⟩
  rw [show (q.2 != 0) = false by simpa using c4, cF, hA, bS] at kL ⊢
  dsimp only at kL ⊢
  by_cases c5 : ve = 0
  case neg =>
   rw [show (ve != 0) = true by simpa using c5, cT] at kL ⊢
   exact ⟨ve, _, rfl, fun h => absurd h c5, fun _ => ⟨ve, _, kL, c5⟩⟩
  rw [show (ve != 0) = false by simpa using c5, cF, WF _ _ (by dsimp only; omega), bS] at kL ⊢
  dsimp only at kL ⊢
  cases hb : UH v with
  | true =>
   rw [hb] at kL
   simp only [if_true] at kL ⊢
   exact ⟨5, ⟨b :: l, n, d⟩, rfl, fun h => (by cases h), fun _ => ⟨5, _, kL, by decide⟩⟩
  | false =>
   rw [hb] at kL
   simp only [Bool.false_eq_true, if_false] at kL ⊢
   rw [Ct (by simp only [lC, lN]; omega) (by simp only [lC, lN]; omega), bS, w64 om om]
   rw [Ct (by simp only [lC, lN, CU]; omega) (by simp only [lC, lN, CU]; omega), bS, w64 om om] at kL
   refine ⟨0, _, rfl, fun _ => ⟨_, rfl, (by show v.length ≤ _; omega), rfl, ⟨by simp, by simp only [lC]; omega, by dsimp only; omega, by dsimp only; omega, fun o ho => ?_, fun o ho => by
    rcases List.mem_cons.1 ho with rfl | ho
    ·rfl
    ·exact h.tx o ho⟩, ?_⟩, fun h => absurd rfl h⟩
   ·rcases List.mem_cons.1 ho with rfl | ho
    ·exact ⟨by simp, by show s'.length ≤ _; omega, by simp⟩
    ·obtain ⟨p1, p2, p3⟩ := h.op o ho
     exact ⟨by omega, by omega, p3⟩
   ·show AE ⟨b' :: DB pre l, n + m, d⟩ t = some ((0 : Int), (⟨_ :: DB pre (b :: l), n + 1 + m, d⟩ : Rdr))
    rw [e1, kL, show n + 1 + m = n + m + 1 by omega]
end
theorem RI.setK {k : Nat} {b : Op} {l : List Op} {n : Int} {d : Bool} {ks : List Nd} (h : RI k ⟨b :: l, n, d⟩) (h1 : ks.length ≤ k) (h2 : ∀ x ∈ ks, x.Text.length ≤ 8192) : RI k ⟨Go.Proofs.YtilhbalhkljanaaGreatDoor.setK b ks :: l, n, d⟩ := by
 obtain ⟨a1, a2, a3, a4, a5, a6⟩ := h
 refine ⟨by simp, by simpa using a2, a3, a4, fun o ho => ?_, fun o ho => ?_⟩
 ·rcases List.mem_cons.1 ho with rfl | ho
  ·exact ⟨h1, (a5 b List.mem_cons_self).2.1, h2⟩
  ·exact a5 o (List.mem_cons_of_mem _ ho)
 ·rcases List.mem_cons.1 ho with rfl | ho
  ·exact a6 b List.mem_cons_self
  ·exact a6 o (List.mem_cons_of_mem _ ho)
structure dN (q : Nat) (r r' : Rdr) : Prop where
 n : r.nodes ≤ r'.nodes
 w0 : (szS 0 r'.open_ : Int) - r'.nodes = szS 0 r.open_ - r.nodes
 w1 : szS 1 r'.open_ ≤ szS 1 r.open_ + 65601 * q
section
variable {k : Nat} {pre : List Nd} {m : Int} (hm0 : 0 ≤ m) (hm1 : m ≤ 1000) (hpre : pre.length ≤ 1000) (hk : k ≤ 70000)
include hm0 hm1 hpre hk
theorem O2 {r : Rdr} {t : Tk} (h : RI k r) (ft : Fit t) : Step0 k pre m r (AN r t) (AN (Fc pre m r) t) := by
 obtain ⟨o, n, d⟩ := r
 have hn0 := h.n0
 have hn1 := h.n1
 have hlen := h.len
 have htx := ft.tx
 dsimp only at hn0 hn1 hlen
 match o, h, hlen with
 | [], h, _ => exact absurd rfl h.ne
 | [b], h, _ =>
  rw [Ih htx]
  refine ⟨_, _, rfl, fun he => ⟨h.mono, Grow.refl _, ?_⟩, fun he => ⟨_, _, Ih (b := ⟨⟨b.node.Kind, b.node.Name, b.node.Attrs, pre ++ b.node.Kids, b.node.Text⟩, b.raw, b.in_⟩) (n := n + m) (d := d) htx, he⟩⟩
  show AN ⟨[_], n + m, d⟩ t = _
  rw [Ih htx, he]
  rfl
 | b :: c :: l, h, hlen =>
  simp only [lC] at hlen
  obtain ⟨a1, a2, a3⟩ := h.op b List.mem_cons_self
  obtain ⟨c', e1, _⟩ := GV pre c l
  have eL : Fc pre m ⟨b :: c :: l, n, d⟩ = ⟨b :: c' :: DB pre l, n + m, d⟩ := by
   show (⟨b :: DB pre (c :: l), n + m, d⟩ : Rdr) = _
   rw [e1]
  have eS : ∀ b2 n2, Fc pre m ⟨b2 :: c :: l, n2, d⟩ = ⟨b2 :: c' :: DB pre l, n2 + m, d⟩ := by
   intro b2 n2
   show (⟨b2 :: DB pre (c :: l), n2 + m, d⟩ : Rdr) = _
   rw [e1]
  rw [eL]
  by_cases ht : t.Text = []
  ·rw [NA om ht, NA (by rw [CU]; omega) ht]
   exact ⟨_, _, rfl, fun _ => ⟨h.mono, Grow.refl _, by rw [eS]⟩, fun h => absurd rfl h⟩
  by_cases hx : ∀ x, b.node.Kids.getLast? = some x → x.Kind ≠ 3
  ·rw [KS om om hn0 om ht hx, KS (by rw [CU]; omega) om om om ht hx]
   by_cases hb : 8192 < t.Text.length
   ·exact ⟨5, _, by rw [if_pos hb], fun h => (by cases h), fun _ => ⟨5, _, by rw [if_pos hb], by decide⟩⟩
   ·refine ⟨0, _, by rw [if_neg hb], fun _ => ⟨h.kid (show t.Text.length ≤ 8192 by omega), Grow.kid rfl (by simp [txN]), ?_⟩, fun h => absurd rfl h⟩
    rw [if_neg hb, eS, show n + m + 1 = n + 1 + m by omega]
  ·obtain ⟨x, hx1, hx3⟩ : ∃ x, b.node.Kids.getLast? = some x ∧ x.Kind = 3 := by
    have := Classical.not_forall.1 hx
    obtain ⟨x, hx⟩ := this
    rw [Classical.not_imp] at hx
    exact ⟨x, hx.1, Classical.not_not.1 hx.2⟩
   obtain ⟨ks, hK⟩ : ∃ ks, b.node.Kids = ks ++ [x] := by
    rcases List.eq_nil_or_concat b.node.Kids with h0 | ⟨ks, y, h0⟩
    ·rw [h0] at hx1; simp at hx1
    ·rw [List.concat_eq_append] at h0
     rw [h0, List.getLast?_concat] at hx1
     exact ⟨ks, by rw [h0, sj hx1]⟩
   have hkl : ks.length + 1 ≤ k := by rw [hK] at a1; simpa using a1
   have hxt := a3 x (by rw [hK]; simp)
   rw [LS (k := ks) (x := x) om om ht hK hx3 om, LS (k := ks) (x := x) (by rw [CU]; omega) om ht hK hx3 om]
   by_cases hb : 8192 < (x.Text ++ t.Text).length
   ·exact ⟨5, _, by rw [if_pos hb], fun h => (by cases h), fun _ => ⟨5, _, by rw [if_pos hb], by decide⟩⟩
   ·refine ⟨0, _, by rw [if_neg hb], fun _ => ⟨(RI.setK h so fun y hy => ?_).mono, ?_, ?_⟩, fun h => absurd rfl h⟩
    ·rcases List.mem_append.1 hy with hy | hy
     ·exact a3 y (by rw [hK]; exact List.mem_append_left _ hy)
     ·rw [List.mem_singleton.1 hy]; dsimp only; omega
    ·have ew : ∀ a, szN a (Go.Proofs.YtilhbalhkljanaaGreatDoor.setK b (ks ++ [⟨x.Kind, x.Name, x.Attrs, x.Kids, x.Text ++ t.Text⟩])).node = szN a b.node := by
      intro a
      rw [EE, EE a b.node, hK]
      show 1 + a * b.node.Attrs.length + szL a (ks ++ [⟨x.Kind, x.Name, x.Attrs, x.Kids, x.Text ++ t.Text⟩]) = _
      rw [JT, JT]
      show _ + (_ + (szN a _ + 0)) = _ + (_ + (szN a x + 0))
      rw [EE, EE a x]
     refine ⟨Int.le_refl _, ?_, ?_⟩
     ·show ((szN 0 _ + szS 0 (c :: l) : Nat) : Int) - n = ((szN 0 b.node + szS 0 (c :: l) : Nat) : Int) - n
      rw [ew]
     ·show szN 1 _ + szS 1 (c :: l) ≤ szN 1 b.node + szS 1 (c :: l) + 65601
      rw [ew]; omega
    ·rw [if_neg hb, eS]
theorem UA {r : Rdr} {t : Tk} (h : RI k r) (ft : Fit t) : dk k pre m r (Au r t) (Au (Fc pre m r) t) := by
 rcases ft.k with hk' | hk' | hk' | hk' | hk' | hk' | hk' | hk'
 ·rw [Th hk', Th hk']
  exact Step0.fin (x := some (0, r)) (y := some (0, Fc pre m r)) hm0 ⟨0, r, rfl, fun _ => ⟨h.mono, Grow.refl _, rfl⟩, fun h => absurd rfl h⟩
 ·rw [Yo hk', Yo hk']
  obtain ⟨e, r', h1, h2, h3⟩ := MO hm0 hm1 hpre hk h ft (.inl hk')
  refine Step0.fin hm0 ⟨e, r', h1, fun he => ?_, h3⟩
  obtain ⟨a, rfl, h7, h8, h5, h6⟩ := h2 he
  exact ⟨h5, Grow.open h8 h7, h6⟩
 ·rw [WZ hk', WZ hk']
  obtain ⟨o, n, d⟩ := r
  match o, h with
  | [], h => exact absurd rfl h.ne
  | [b], h => exact ⟨26, ⟨[b], n, d⟩, if_pos rfl, fun h => (by cases h), fun _ => ⟨26, _, if_pos rfl, by decide⟩⟩
  | a :: b :: l, h =>
   have hlen := h.len
   simp only [lC] at hlen
   have hl1 : ¬ (⟨a :: b :: l, n, d⟩ : Rdr).open_.length = 1 := by simp
   have hl2 : ¬ (Fc pre m ⟨a :: b :: l, n, d⟩).open_.length = 1 := by show ¬ (DB pre (a :: b :: l)).length = 1; rw [CU]; simp
   have eL : (Fc pre m ⟨a :: b :: l, n, d⟩).open_ = a :: DB pre (b :: l) := rfl
   rw [if_neg hl1, if_neg hl2, eL]
   dsimp only
   rw [Gr so, Gr (by rw [CU]; simp; omega), bS, bS]
   dsimp only
   by_cases hr : a.raw = t.Name
   ·rw [if_pos hr, if_pos hr]
    obtain ⟨r', h1, h2, h3, h4⟩ := Sw hm0 hm1 hpre hk h
    rw [h1, h4]
    exact Step0.fin (x := some (0, r')) (y := some (0, Fc pre m r')) hm0 ⟨0, r', rfl, fun _ => ⟨h2, h3, rfl⟩, fun h => absurd rfl h⟩
   ·exact ⟨26, _, by rw [if_neg hr], fun h => (by cases h), fun _ => ⟨26, _, by rw [if_neg hr], by decide⟩⟩
 ·rw [Tb hk', Tb hk']
  obtain ⟨e, r', h1, h2, h3⟩ := MO hm0 hm1 hpre hk h ft (.inr hk')
  rw [h1, bS]
  dsimp only
  by_cases he : e = 0
  case neg =>
   obtain ⟨e', r'', h4, he'⟩ := h3 he
   rw [h4, bS]
   dsimp only
   exact ⟨e, r', by rw [if_neg he], fun h => absurd h he, fun _ => ⟨e', r'', by rw [if_neg he'], he'⟩⟩
  obtain ⟨a, rfl, h7, h8, h5, h6⟩ := h2 he
  rw [if_pos he, h6, bS]
  dsimp only
  rw [if_pos rfl]
  obtain ⟨o, n, d⟩ := r
  match o, h, h5 with
  | [], h, _ => exact absurd rfl h.ne
  | b :: l, h, h5 =>
   obtain ⟨a1, a2, a3⟩ := h.op b List.mem_cons_self
   have hlen := h.len
   have hn0 := h.n0
   have hn1 := h.n1
   simp only [lC] at hlen
   dsimp only at hn0 hn1 ⊢
   obtain ⟨b', e1, _, _, _, _, e5, e6⟩ := GV pre b l
   have eL : Fc pre m ⟨a :: b :: l, n + 1, d⟩ = ⟨a :: b' :: DB pre l, n + 1 + m, d⟩ := by
    show (⟨a :: DB pre (b :: l), n + 1 + m, d⟩ : Rdr) = _
    rw [e1]
   rw [eL, Lf om om, Lf (by rw [CU]; omega) om]
   refine Step0.fin (x := some (0, _)) (y := some (0, _)) hm0 ⟨0, _, rfl, fun _ => ⟨h.kid (by rw [h5.tx a List.mem_cons_self]; simp), Grow.kid h8 h7, ?_⟩, fun h => absurd rfl h⟩
   show some ((0 : Int), _) = some ((0 : Int), (⟨DB pre (kid b a.node :: l), n + 1 + m, d || decide (l.length = 0)⟩ : Rdr))
   rw [e6, CU]
 ·rw [IF (.inl hk'), IF (.inl hk')]
  exact Step0.fin hm0 (O2 hm0 hm1 hpre hk h ft)
 ·rw [IF (.inr hk'), IF (.inr hk')]
  exact Step0.fin hm0 (O2 hm0 hm1 hpre hk h ft)
 ·rw [Pz hk', Pz hk']
  exact Step0.fin hm0 (RR hm0 hm1 hpre hk h _ rfl rfl)
 ·rw [Yd hk', Yd hk']
  exact Step0.fin hm0 (RR hm0 hm1 hpre hk h _ rfl rfl)
omit hk in
theorem G6 : ∀ (L : List Tk) (k : Nat) (r : Rdr), RI k r → (∀ t ∈ L, Fit t) → k + L.length ≤ 70000 →
  ∃ o, ET L r = some o ∧ (∀ r', o = .inl r' → RI (k + L.length) r' ∧ dN L.length r r' ∧ (r'.nodes + m ≤ 2000 → ET L (Fc pre m r) = some (.inl (Fc pre m r'))) ∧ (2000 < r'.nodes + m → r.nodes + m ≤ 2000 → ∃ x, ET L (Fc pre m r) = some (.inr x))) ∧
   (∀ x, o = .inr x → ∃ y, ET L (Fc pre m r) = some (.inr y))
 | [], k, r, h, _, _ => ⟨.inl r, rfl, fun r' e => by injection e with e; subst e; exact ⟨h, ⟨Int.le_refl _, rfl, by simp⟩, fun _ => rfl, fun h1 h2 => by omega⟩, fun x e => by cases e⟩
 | t :: L, k, r, h, ft, hl => by
  rw [lC] at hl
  obtain ⟨e, r1, h1, h2, h3⟩ := UA hm0 hm1 hpre om h (ft t List.mem_cons_self)
  have hr : ∀ r, ET (t :: L) r = (Au r t).bind fun x => if x.1 ≠ 0 then some (.inr (t.At, x.1)) else ET L x.2 := fun _ => rfl
  have hfail : Re (Au (Fc pre m r) t) → ∃ y, ET (t :: L) (Fc pre m r) = some (.inr y) := by
   rintro ⟨e', r'', q1, q2⟩
   rw [hr, q1, bS]
   dsimp only
   exact ⟨_, by rw [if_pos q2]⟩
  rw [hr r, h1, bS]
  dsimp only
  by_cases he : e = 0
  case neg => exact ⟨_, by rw [if_pos he], fun r' e => (by cases e), fun _ _ => hfail (h3 he)⟩
  obtain ⟨g1, g2, g3, g4⟩ := h2 he
  obtain ⟨o, e1, e2, e3⟩ := G6 L (k + 1) r1 g1 (fun u hu => ft u (List.mem_cons_of_mem _ hu)) om
  have hgo : r1.nodes + m ≤ 2000 → ET (t :: L) (Fc pre m r) = ET L (Fc pre m r1) := by
   intro hn
   rw [hr, g3 hn, bS]
   dsimp only
   rw [if_neg (by simp)]
  refine ⟨o, by rw [if_neg (by simpa using he)]; exact e1, fun r' eo => ?_, fun x eo => ?_⟩
  ·obtain ⟨f1, f2, f3, f4⟩ := e2 r' eo
   refine ⟨by rw [lC, show k + (L.length + 1) = k + 1 + L.length by omega]; exact f1, ⟨by have := g2.n; have := f2.n; omega, by rw [f2.w0, g2.w0], by have := g2.w1; have := f2.w1; rw [lC]; omega⟩, fun hm => ?_, fun hm _ => ?_⟩
   ·rw [hgo (by have := f2.n; omega)]; exact f3 hm
   ·by_cases hn : r1.nodes + m ≤ 2000
    ·rw [hgo hn]; exact f4 hm hn
    ·exact hfail (g4 om)
  ·by_cases hn : r1.nodes + m ≤ 2000
   ·rw [hgo hn]; exact e3 x eo
   ·exact hfail (g4 om)
end
theorem WW {b : LB} {i j : Nat} {t : Tk} (hb : b.length ≤ 65536) (g : W7 t) (h : I2 b i t j) : Fit t := by
 have hl := h.len
 have hn : ∀ x : LB, Ho x → x.length ≤ 65536 := fun x hx => Te hx
 rcases g with ⟨k, n, x, la, g1, g2⟩ | ⟨k, g1, g2, g3, x⟩ | ⟨k, g1, p, x⟩ | ⟨k, n, p, g1, g2, g3⟩ | ⟨k, n, p, g1, g2, g3, g4⟩ | ⟨k, n, p, g1, g2, g3, g4⟩ | ⟨k, g1, p, g2, g3, g4, g5⟩
 ·exact ⟨.inl k, by omega, fun h => absurd h (by rw [k]; decide), by rw [x]; simp⟩
 ·refine ⟨by rcases k with k | k <;> simp [k], by omega, fun _ => ⟨hn _ g1, fun p hp => hn _ (g2 p hp).1⟩, by rw [x]; simp⟩
 ·exact ⟨by simp [k], by omega, fun h => absurd h (by rw [k]; decide), by rw [x]; simp⟩
 ·exact ⟨by simp [k], by omega, fun h => absurd h (by rw [k]; decide), g3⟩
 ·exact ⟨by simp [k], by omega, fun h => absurd h (by rw [k]; decide), by omega⟩
 ·exact ⟨by simp [k], by omega, fun h => absurd h (by rw [k]; decide), by omega⟩
 ·exact ⟨by simp [k], by omega, fun h => absurd h (by rw [k]; decide), by omega⟩
theorem bU {U : LB} (hU : U.length ≤ 65536) (hok : OkT U) (h13 : (13 : UInt8) ∉ U) {L : List Tk} {j : Nat} (h : Tr U L j) : ∀ t ∈ L, Fit t := by
 induction h with
 | nil => intro t ht; simp at ht
 | @snoc L j k t h1 h2 h3 h4 h5 ih =>
  intro u hu
  rcases List.mem_append.1 hu with hu | hu
  ·exact ih u hu
  ·rw [List.mem_singleton.1 hu]
   exact WW hU (Ob hU hok h13 h2 h3 h4 h5).1 h4
theorem O4 : RI 0 r0 := ⟨by simp [r0], by simp [r0], by simp [r0], by simp [r0], by simp [r0], by simp [r0]⟩
theorem Pw (p : LB) : (13 : UInt8) ∉ pln p := K3 _ _
theorem QN {p : LB} {L : List Tk} {a : Int} (hp : p.length ≤ 65536) (h : Dt p = some (L, a, 0)) : (∀ t ∈ L, Fit t) ∧ L.length ≤ 65536 ∧ OkT (pln p) ∧ Tr (pln p) L (pln p).length ∧
  A5 p = (ET L r0).bind fun o => match o with
   | .inl r => Xh p r
   | .inr (x, y) => some (nd0, x, y) := by
 obtain ⟨h1, h2, _⟩ := aN hp h
 have hl := JM p
 have h3 := TQ h2
 exact ⟨bU om h1 (Pw p) h2, by omega, h1, h2, NU h om⟩
theorem Xg {p : LB} {r : Rdr} (hp : p.length ≤ 1073741824) (h : r.open_ ≠ []) : ∃ x, Xh p r = some x := by
 unfold Xh
 rw [NP p hp]
 cases h1 : decide ((1 : Int) < (r.open_.length : Int)) with
 | true => exact ⟨_, rfl⟩
 | false =>
  have hlen := of_decide_eq_false h1
  rw [cF]
  cases (!r.done) with
  | true => exact ⟨_, rfl⟩
  | false =>
   rw [cF]
   match ho : r.open_, h with
   | [], h => exact absurd rfl h
   | [b], _ => exact ⟨(b.node, 0, 0), rfl⟩
   | a :: b :: l, _ => rw [ho] at hlen; simp at hlen; omega
theorem Lu (p : LB) (hp : p.length ≤ 1073741824) : ∃ x, A5 p = some x := by
 obtain ⟨L, a, e, hA, _⟩ := Xs p hp
 by_cases he : e = 0
 ·subst he
  have hl : p.length ≤ 65536 := by
   apply Classical.byContradiction
   intro hc
   unfold Dt at hA
   rw [dT om, cT] at hA
   have := sj hA
   injection this with _ this
   injection this with _ this
   cases this
  obtain ⟨h1, h2, _, _, h3⟩ := QN hl hA
  obtain ⟨o, e1, e2, _⟩ := G6 (pre := []) (m := 0) om om (by simp) L 0 r0 O4 h1 om
  rw [h3, e1, bS]
  cases o with
  | inl r =>
   obtain ⟨g1, _⟩ := e2 r rfl
   exact Xg hp g1.ne
  | inr x => exact ⟨_, rfl⟩
 ·unfold A5
  rw [hA, bS]
  dsimp only
  rw [show (e != 0) = true by simpa using he, cT]
  exact ⟨_, rfl⟩
section
variable {X b : LB}
theorem shd (i : Nat) : (X ++ b).drop (X.length + i) = b.drop i := List.drop_length_add_append ..
theorem her (i : Nat) (w : LB) : AF (X ++ b) (X.length + i) w = AF b i w := by unfold AF; rw [shd]
theorem skS (P : UInt8 → Bool) (i : Nat) : sk P (X ++ b) (X.length + i) = X.length + sk P b i := by unfold sk; rw [shd]; omega
theorem fg (i : Nat) : (X ++ b).getD (X.length + i) 0 = b.getD i 0 := by
 simp only [List.getD_eq_getElem?_getD]
 rw [List.getElem?_append_right om, Nat.add_sub_cancel_left]
variable (hU : (X ++ b).length ≤ 1073741824)
include hU
theorem bl : b.length ≤ 1073741824 ∧ (X ++ b).length = X.length + b.length := by
 rw [lA] at hU ⊢; omega
theorem Qq (i : Nat) : ∀ (n k : Nat), k ≤ b.length → iter (AC ⟨X ++ b, ((X.length + i : Nat) : Int)⟩) n ((X.length + k : Nat) : Int) = (iter (AC ⟨b, (i : Int)⟩) n (k : Int)).map fun x => (X.length : Int) + x
 | 0, k, _ => rfl
 | n + 1, k, hk => by
  obtain ⟨h1, h2⟩ := bl hU
  rw [DN, DN]
  by_cases hlt : k < b.length
  ·obtain ⟨d1, d2, _⟩ := CT b k hlt
   rw [FE (X ++ b) (X.length + i) (X.length + k) om hU, FE b i k hlt h1, shd]
   have hs : HZ ((X.length + i : Nat) : Int) ((X.length + k : Nat) : Int) ((decodeL (b.drop k)).1 : Int) = HZ (i : Int) (k : Int) ((decodeL (b.drop k)).1 : Int) := by
    unfold HZ
    have : (((X.length + k : Nat) : Int) == ((X.length + i : Nat) : Int)) = ((k : Int) == (i : Int)) := by
     rw [Bool.eq_iff_iff, beq_iff_eq, beq_iff_eq]; omega
    rw [this]
   rw [hs]
   cases HZ (i : Int) (k : Int) ((decodeL (b.drop k)).1 : Int) with
   | true => rw [cT, cT]; simp
   | false =>
    rw [cF, cF, show X.length + k + (decodeL (b.drop k)).2 = X.length + (k + (decodeL (b.drop k)).2) by omega]
    exact Qq i n _ d2
  ·have : k = b.length := by omega
   subst this
   rw [KT, ← h2, KT, h2]
   simp
theorem TG {i j : Nat} {v : LB} {e : Int} (hi : i ≤ b.length) (h : AM ⟨b, (i : Int)⟩ = some ((v, e), ⟨b, (j : Int)⟩)) : AM ⟨X ++ b, ((X.length + i : Nat) : Int)⟩ = some ((v, e), ⟨X ++ b, ((X.length + j : Nat) : Int)⟩) := by
 obtain ⟨h1, h2⟩ := bl hU
 obtain ⟨k, k1, k2, k3⟩ := OS b i hi h1
 have hS := Qq hU i AA i hi
 rw [k1] at hS
 have e1 : iter (AC ⟨X ++ b, ((X.length + i : Nat) : Int)⟩) AA ((X.length + i : Nat) : Int) = some ((X.length + k : Nat) : Int) := by rw [hS]; simp
 rw [Lk b i k k1 k2 k3] at h
 rw [Lk (X ++ b) (X.length + i) (X.length + k) e1 om om, shd, show X.length + k - (X.length + i) = k - i by omega]
 generalize (b.drop i).take (k - i) = x at h ⊢
 cases hx : x == ([] : LB) with
 | true =>
  rw [hx, cT] at h
  have h := sj h
  injection h with h3 h4
  injection h3 with h5 h6
  injection h4 with _ h7
  rw [cT, ← h5, ← h6, show j = i by omega]
 | false =>
  rw [hx, cF] at h
  rw [cF]
  cases hs : CH x with
  | none => rw [hs] at h; cases h
  | some y =>
   rw [hs, bS] at h
   rw [bS]
   cases hy : !y.2.2 with
   | true =>
    rw [hy, cT] at h
    have h := sj h
    injection h with h3 h4
    injection h3 with h5 h6
    injection h4 with _ h7
    rw [cT, ← h5, ← h6, show j = i by omega]
   | false =>
    rw [hy, cF] at h
    have h := sj h
    injection h with h3 h4
    injection h3 with h5 h6
    injection h4 with _ h7
    rw [cF, ← h5, ← h6, show j = k by omega]
theorem Zf {i : Nat} (hi : i ≤ b.length) : ∃ (e : Int) (j : Nat), AX ⟨b, (i : Int)⟩ = some (e, ⟨b, (j : Int)⟩) ∧ j ≤ b.length ∧ AX ⟨X ++ b, ((X.length + i : Nat) : Int)⟩ = some (e, ⟨X ++ b, ((X.length + j : Nat) : Int)⟩) := by
 obtain ⟨h1, h2⟩ := bl hU
 obtain ⟨s1, s2⟩ := DK wsP b i hi
 rw [JD b i hi h1, JD (X ++ b) _ om hU, skS, her]
 cases hh : AF b (sk wsP b i) [61] with
 | true =>
  have hl := AT hh s2
  simp only [List.length_singleton] at hl
  have := (DK wsP b (sk wsP b i + 1) om).2
  refine ⟨0, _, by rw [if_pos rfl], this, ?_⟩
  rw [if_pos rfl, show X.length + sk wsP b i + 1 = X.length + (sk wsP b i + 1) by omega, skS]
 | false =>
  have := (DK wsP b (sk wsP b i) s2).2
  refine ⟨23, _, by rw [if_neg (by simp)], this, ?_⟩
  rw [if_neg (by simp), skS]
theorem YN {i : Nat} (hi : i ≤ b.length) : ∃ (rv : LB) (e : Int) (j : Nat), AY ⟨b, (i : Int)⟩ = some ((rv, e), ⟨b, (j : Int)⟩) ∧ j ≤ b.length ∧ AY ⟨X ++ b, ((X.length + i : Nat) : Int)⟩ = some ((rv, e), ⟨X ++ b, ((X.length + j : Nat) : Int)⟩) := by
 obtain ⟨h1, h2⟩ := bl hU
 obtain ⟨v, e, j, w1, _, w2, _⟩ := FM b i hi h1
 refine ⟨v, e, j, w1, w2, ?_⟩
 rw [JK b i hi h1] at w1
 rw [JK (X ++ b) _ om hU]
 have w1 := sj w1
 unfold quo at w1 ⊢
 rw [her, her, show X.length + i + 1 = X.length + (i + 1) by omega, shd, fg]
 split at w1
 ·rename_i hc
  rw [if_pos hc]
  injection w1 with h3 h4
  injection h3 with h5 h6
  injection h4 with _ h7
  rw [← h5, ← h6, show X.length + i + ((Lib.indexByte (b.drop (i + 1)) (b.getD i 0)).toNat + 2) = X.length + j by omega]
 ·rename_i hc
  rw [if_neg hc]
  injection w1 with h3 h4
  injection h3 with h5 h6
  injection h4 with _ h7
  rw [← h5, ← h6, show j = i by omega]
def shT (At : Int) (t : Tk) : Tk := ⟨t.Kind, At, t.Name, t.Pairs, t.Text, t.Refs⟩
def shR (X b : LB) (At : Int) (x : Int × TS × Tk) : Int × TS × Tk := (x.1, ⟨X ++ b, (X.length : Int) + x.2.1.at_⟩, shT At x.2.2)
omit hU in
theorem l1S (k a8 a11 : Int) (At At' : Int) (nm tx : LB) (ps : List TP) (rf : Int) (x27 : (LB × Int) × TS) (y27 : (LB × Int) × TS) (x31 y31 : (LB × Int) × TS) (h1 : y27.1 = x27.1) (h2 : y31.2 = ⟨X ++ b, (X.length : Int) + x31.2.at_⟩) :
  ∀ (n : Nat) (z : Int), iter (AJ k At' nm ps tx rf y27 y31) n z = (iter (AJ k At nm ps tx rf x27 x31) n z).map (Sum.map id (shR X b At'))
 | 0, _ => rfl
 | n + 1, z => by
  rw [DN, DN]
  have ih := l1S k a8 a11 At At' nm tx ps rf x27 y27 x31 y31 h1 h2 n
  generalize iter (AJ k At' nm ps tx rf y27 y31) n = r1 at ih ⊢
  generalize iter (AJ k At nm ps tx rf x27 x31) n = r2 at ih ⊢
  unfold AJ
  cases decide (z < (ps.length : Int)) with
  | false => rfl
  | true =>
   rw [cT, cT, h1]
   cases idx ps z with
   | none => rfl
   | some q =>
    rw [bS, bS]
    cases q.Name == x27.1.1 with
    | true => rw [cT, cT, h2]; rfl
    | false => rw [cF, cF, ih]
theorem Uh (At At' : Int) (Nm Tx : LB) (rf : Int) : ∀ (n j : Nat) (ps : List TP) (y z : LB), j ≤ b.length →
  iter Al n (X ++ b, ((X.length + j : Nat) : Int), (2 : Int), At', Nm, ps, Tx, rf, y, z) = (iter Al n (b, (j : Int), (2 : Int), At, Nm, ps, Tx, rf, y, z)).map (shR X b At')
 | 0, j, ps, y, z, _ => rfl
 | n + 1, j, ps, y, z, hj => by
  obtain ⟨h1, h2⟩ := bl hU
  have ih := fun j ps y z => Uh At At' Nm Tx rf n j ps y z
  rw [DN, DN]
  generalize iter Al n = rec at ih ⊢
  obtain ⟨s1, s2⟩ := DK wsP b j hj
  unfold Al
  dsimp only
  simp only [Av]
  rw [AZ (X ++ b) _ (X.length + j) om hU, skS, AZ b _ j hj h1, bS, bS, BP (X ++ b) (X.length + sk wsP b j) _ om, BP b (sk wsP b j) _ s2, her, bS, bS]
  have hlen : ∀ w, AF b (sk wsP b j) w = true → sk wsP b j + w.length ≤ b.length := fun w h => AT h s2
  cases c1 : AF b (sk wsP b j) [47, 62] with
  | true =>
   rw [cT, cT, BW (X ++ b) _ _ om hU, BW b _ _ s2 h1, her, c1, if_pos rfl, if_pos rfl, bS, bS]
   simp only [Option.map_some, shR, shT]
   congr 4 <;> omega
  | false =>
  rw [cF, cF, BP (X ++ b) (X.length + sk wsP b j) _ om, BP b (sk wsP b j) _ s2, her, bS, bS]
  cases c2 : AF b (sk wsP b j) [62] with
  | true =>
   rw [cT, cT, BW (X ++ b) _ _ om hU, BW b _ _ s2 h1, her, c2, if_pos rfl, if_pos rfl, bS, bS]
   simp only [Option.map_some, shR, shT]
   congr 4 <;> omega
  | false =>
  rw [cF, cF, show (((X.length + sk wsP b j : Nat) : Int) == ((X.length + j : Nat) : Int)) = (((sk wsP b j : Nat) : Int) == (j : Int)) by rw [Bool.eq_iff_iff, beq_iff_eq, beq_iff_eq]; omega]
  cases c3 : (((sk wsP b j : Nat) : Int) == (j : Int)) with
  | true =>
   rw [cT, cT]
   simp only [Option.map_some, shR, shT]
   congr 4
  | false =>
  obtain ⟨v, e, k1, n1, n2, n3, _⟩ := En b (sk wsP b j) s2 h1
  rw [cF, cF, TG hU s2 n1, n1, bS, bS]
  dsimp only
  cases c4 : (e != 0) with
  | true =>
   rw [cT, cT]
   simp only [Option.map_some, shR, shT]
   congr 4
  | false =>
  obtain ⟨e2, k2, q1, q2, q3⟩ := Zf hU n3
  rw [cF, cF, q3, q1, bS, bS]
  dsimp only
  cases c5 : (e2 != 0) with
  | true =>
   rw [cT, cT]
   simp only [Option.map_some, shR, shT]
   congr 4
  | false =>
  obtain ⟨rv, e3, k3, r1, r2, r3⟩ := YN hU q2
  rw [cF, cF, r3, r1, bS, bS]
  dsimp only
  cases c6 : (e3 != 0) with
  | true =>
   rw [cT, cT]
   simp only [Option.map_some, shR, shT]
   congr 4
  | false =>
  rw [cF, cF]
  cases BO rv with
  | none => rfl
  | some u =>
   simp only [bS]
   cases c7 : (u.2.2 != 0) with
   | true =>
    rw [cT, cT]
    simp only [Option.map_some, shR, shT]
    congr 4
   | false =>
    rw [cF, cF, l1S (X := X) (b := b) 2 0 0 At At' Nm Tx ps rf ((v, e), ⟨b, (k1 : Int)⟩) ((v, e), ⟨X ++ b, ((X.length + k1 : Nat) : Int)⟩) ((rv, e3), ⟨b, (k3 : Int)⟩) ((rv, e3), ⟨X ++ b, ((X.length + k3 : Nat) : Int)⟩) rfl (by simp)]
    cases iter (AJ 2 At Nm ps Tx rf ((v, e), ⟨b, (k1 : Int)⟩) ((rv, e3), ⟨b, (k3 : Int)⟩)) AA (0 : Int) with
    | none => rfl
    | some o =>
     rw [Option.map_some]
     simp only [bS]
     cases o with
     | inr x => rfl
     | inl x =>
      simp only [Sum.map_inl]
      cases app 32 ps [(⟨v, u.1⟩ : TP)] with
      | none => rfl
      | some a =>
       simp only [bS]
       exact ih k3 _ _ _ r2
theorem eY {i : Nat} (hi : i + 1 ≤ b.length) : A1 ⟨X ++ b, ((X.length + i : Nat) : Int)⟩ (DC ((X.length + i : Nat) : Int)) = (A1 ⟨b, (i : Int)⟩ (DC i)).map (shR X b ((X.length + i : Nat) : Int)) := by
 obtain ⟨h1, h2⟩ := bl hU
 unfold A1
 dsimp only
 rw [w64 (x := (i : Int) + 1) om om, show (i : Int) + 1 = ((i + 1 : Nat) : Int) by omega, w64 (x := ((X.length + i : Nat) : Int) + 1) om om, show ((X.length + i : Nat) : Int) + 1 = ((X.length + (i + 1) : Nat) : Int) by omega]
 obtain ⟨v, e, k1, n1, n2, n3, _⟩ := En b (i + 1) hi h1
 rw [TG hU hi n1, n1, bS, bS]
 dsimp only
 cases (e != 0) with
 | true =>
  rw [cT, cT]
  simp only [Option.map_some, shR, shT, DC]
  congr 4
 | false =>
  have hbind : ∀ o : Option (Int × TS × TK), (o.bind fun x => some x) = o := fun o => by cases o <;> rfl
  rw [cF, cF, hbind, hbind]
  exact Uh hU _ _ v _ _ AA k1 _ _ _ n3
theorem W2 {i : Nat} (hi : i + 2 ≤ b.length) : AL ⟨X ++ b, ((X.length + i : Nat) : Int)⟩ (DC ((X.length + i : Nat) : Int)) = (AL ⟨b, (i : Int)⟩ (DC i)).map (shR X b ((X.length + i : Nat) : Int)) := by
 obtain ⟨h1, h2⟩ := bl hU
 unfold AL
 dsimp only
 rw [w64 (x := (i : Int) + 2) om om, show (i : Int) + 2 = ((i + 2 : Nat) : Int) by omega, w64 (x := ((X.length + i : Nat) : Int) + 2) om om, show ((X.length + i : Nat) : Int) + 2 = ((X.length + (i + 2) : Nat) : Int) by omega]
 obtain ⟨v, e, k1, n1, n2, n3, _⟩ := En b (i + 2) hi h1
 rw [TG hU hi n1, n1, bS, bS]
 dsimp only
 cases (e != 0) with
 | true =>
  rw [cT, cT]
  simp only [Option.map_some, shR, shT, DC]
  congr 4
 | false =>
  obtain ⟨s1, s2⟩ := DK wsP b k1 n3
  rw [cF, cF, AZ (X ++ b) _ (X.length + k1) om hU, skS, AZ b _ k1 n3 h1, bS, bS, BW (X ++ b) _ _ om hU, BW b _ _ s2 h1, her]
  cases AF b (sk wsP b k1) [62] with
  | true =>
   rw [if_pos rfl, if_pos rfl, bS, bS]
   simp only [Option.map_some, shR, shT, DC]
   congr 4 <;> omega
  | false =>
   rw [if_neg (by simp), if_neg (by simp), bS, bS]
   simp only [Option.map_some, shR, shT, DC]
   congr 4
theorem WR {i : Nat} {k : Nat} {t : Tk} {At : Int} {w : LB} (hw : w ≠ []) (hwl : w.length ≤ 100) (hi : i + k ≤ b.length) : Ax ⟨X ++ b, ((X.length + i : Nat) : Int)⟩ (shT At t) (k : Int) w = (Ax ⟨b, (i : Int)⟩ t (k : Int) w).map (shR X b At) := by
 obtain ⟨h1, h2⟩ := bl hU
 unfold Ax
 dsimp only
 rw [w64 (x := (i : Int) + (k : Int)) om om, show (i : Int) + (k : Int) = ((i + k : Nat) : Int) by omega, w64 (x := ((X.length + i : Nat) : Int) + (k : Int)) om om, show ((X.length + i : Nat) : Int) + (k : Int) = ((X.length + (i + k) : Nat) : Int) by omega, BU hi, BU om, shd, bS, bS]
 cases FZ (b.drop (i + k)) w with
 | none => rfl
 | some z =>
  rw [bS, bS]
  cases decide (z < 0) with
  | true =>
   rw [cT, cT]
   simp only [Option.map_some, shR, shT]
   congr 4
  | false =>
   rw [cF, cF]
   cases hs : slc (b.drop (i + k)) (0 : Int) z with
   | none => rfl
   | some y =>
    obtain ⟨z1, z2, z3, _⟩ := MI hs
    rw [lD] at z3
    rw [bS, bS]
    simp only [Option.map_some, shR, shT]
    rw [w64 (x := (k : Int) + z) om om, w64 (x := (k : Int) + z + (w.length : Int)) om om, w64 (x := (i : Int) + ((k : Int) + z + (w.length : Int))) om om, w64 (x := ((X.length + i : Nat) : Int) + ((k : Int) + z + (w.length : Int))) om om]
    congr 4 <;> omega
theorem bA {i : Nat} (hi : i + 2 ≤ b.length) : AI ⟨X ++ b, ((X.length + i : Nat) : Int)⟩ (DC ((X.length + i : Nat) : Int)) = (AI ⟨b, (i : Int)⟩ (DC i)).map (shR X b ((X.length + i : Nat) : Int)) := by
 obtain ⟨h1, h2⟩ := bl hU
 unfold AI
 dsimp only
 rw [w64 (x := (i : Int) + 2) om om, show (i : Int) + 2 = ((i + 2 : Nat) : Int) by omega, w64 (x := ((X.length + i : Nat) : Int) + 2) om om, show ((X.length + i : Nat) : Int) + 2 = ((X.length + (i + 2) : Nat) : Int) by omega]
 obtain ⟨v, e, k1, n1, n2, n3, _⟩ := En b (i + 2) hi h1
 rw [TG hU hi n1, n1, bS, bS]
 dsimp only
 cases (e != 0) with
 | true =>
  rw [cT, cT]
  simp only [Option.map_some, shR, shT, DC]
  congr 4
 | false =>
 rw [cF, cF]
 cases Eo v with
 | none => rfl
 | some x3 =>
 rw [bS, bS]
 cases (!x3) with
 | true =>
  rw [cT, cT]
  simp only [Option.map_some, shR, shT, DC]
  congr 4
 | false =>
 rw [cF, cF]
 cases Bl v [120, 109, 108] with
 | none => rfl
 | some x5 =>
 rw [bS, bS]
 cases x5 with
 | true =>
  rw [cT, cT]
  simp only [Option.map_some, shR, shT, DC]
  congr 4
 | false =>
 rw [cF, cF, BP (X ++ b) _ _ om, BP b _ _ n3, her, bS, bS]
 cases hh : AF b k1 [63, 62] with
 | true =>
  rw [cT, cT, BW (X ++ b) _ _ om hU, BW b _ _ n3 h1, her, hh, if_pos rfl, if_pos rfl, bS, bS]
  simp only [Option.map_some, shR, shT, DC]
  congr 4 <;> omega
 | false =>
 obtain ⟨s1, s2⟩ := DK wsP b k1 n3
 rw [cF, cF, AZ (X ++ b) _ (X.length + k1) om hU, skS, AZ b _ k1 n3 h1, bS, bS, show (((X.length + sk wsP b k1 : Nat) : Int) == ((X.length + k1 : Nat) : Int)) = (((sk wsP b k1 : Nat) : Int) == (k1 : Int)) by rw [Bool.eq_iff_iff, beq_iff_eq, beq_iff_eq]; omega]
 cases (((sk wsP b k1 : Nat) : Int) == (k1 : Int)) with
 | true =>
  rw [cT, cT]
  simp only [Option.map_some, shR, shT, DC]
  congr 4
 | false =>
 rw [cF, cF]
 have := WR hU (i := sk wsP b k1) (k := 0) (t := ⟨8, (i : Int), v, [], [], 0⟩) (At := ((X.length + i : Nat) : Int)) (w := [63, 62]) (by simp) (by simp) om
 rw [show ((0 : Nat) : Int) = (0 : Int) from rfl] at this
 rw [KV, KV]
 exact this
theorem cH {i : Nat} (hi : i < b.length) (h60 : b[i]? = some 60) : Ft (X ++ b) (X.length + i) = (Ft b i).map (shR X b ((X.length + i : Nat) : Int)) := by
 obtain ⟨h1, h2⟩ := bl hU
 have hle : i ≤ b.length := Nat.le_of_lt hi
 unfold Ft
 rw [her, her, her, her, her, her]
 have two : ∀ c, AF b i [60, c] = true → i + 2 ≤ b.length := fun c h => by have := AT h hle; simpa using this
 cases c1 : AF b i [60, 33, 45, 45] with
 | true =>
  have hl := AT c1 hle
  simp only [lC, lN] at hl
  have hu := WR hU (i := i) (k := 4) (t := Ni 7 i) (At := ((X.length + i : Nat) : Int)) (w := [45, 45]) (by simp) (by simp) om
  rw [show ((4 : Nat) : Int) = (4 : Int) from rfl] at hu
  have e0 : shT ((X.length + i : Nat) : Int) (Ni 7 i) = Ni 7 ((X.length + i : Nat) : Int) := rfl
  rw [e0] at hu
  rw [cT, cT, hu]
  obtain ⟨e, j, x, u1, u2, _⟩ := Gu b i 4 (Ni 7 i) [45, 45] (by simp) om h1 (by simp)
  rw [show ((4 : Nat) : Int) = (4 : Int) from rfl] at u1
  rw [u1, Option.map_some, bS, bS]
  simp only [shR]
  cases (e != 0) with
  | true => rfl
  | false =>
   rw [cF, cF, show (X.length : Int) + (j : Int) = ((X.length + j : Nat) : Int) by omega, BW (X ++ b) _ _ om hU, BW b _ _ u2 h1, her]
   cases AF b j [62] with
   | true =>
    rw [if_pos rfl, if_pos rfl, bS, bS]
    simp only [Option.map_some, shR]
    congr 4 <;> omega
   | false =>
    rw [if_neg (by simp), if_neg (by simp), bS, bS]
    simp only [Option.map_some, shR]
    congr 4
 | false =>
 rw [cF, cF]
 cases c2 : AF b i [60, 33, 91, 67, 68, 65, 84, 65, 91] with
 | true =>
  have hl := AT c2 hle
  simp only [lC, lN] at hl
  have hu := WR hU (i := i) (k := 9) (t := Ni 6 i) (At := ((X.length + i : Nat) : Int)) (w := [93, 93, 62]) (by simp) (by simp) om
  rw [show ((9 : Nat) : Int) = (9 : Int) from rfl] at hu
  rw [cT, cT]
  exact hu
 | false =>
 rw [cF, cF]
 cases AF b i [60, 33, 68, 79, 67, 84, 89, 80, 69] with
 | true => rw [cT, cT]; simp only [Option.map_some, shR, shT, DC]; congr 4
 | false =>
 rw [cF, cF]
 cases AF b i [60, 33] with
 | true => rw [cT, cT]; simp only [Option.map_some, shR, shT, DC]; congr 4
 | false =>
 rw [cF, cF]
 cases c5 : AF b i [60, 63] with
 | true => rw [cT, cT]; exact bA hU (two 63 c5)
 | false =>
 rw [cF, cF]
 cases c6 : AF b i [60, 47] with
 | true => rw [cT, cT]; exact W2 hU (two 47 c6)
 | false =>
 rw [cF, cF, her]
 have c7 : AF b i [60] = true := by rw [Ig, h60]; simp
 rw [c7, cT, cT]
 exact eY hU om
theorem Ya {i : Nat} (hX : X ≠ []) (hi : i < b.length) (h60 : b[i]? = some 60) (hd : Fh b i = false) : An ⟨X ++ b, ((X.length + i : Nat) : Int)⟩ (DC ((X.length + i : Nat) : Int)) = (An ⟨b, (i : Int)⟩ (DC i)).map (shR X b ((X.length + i : Nat) : Int)) := by
 obtain ⟨h1, h2⟩ := bl hU
 have hpos := List.length_pos_iff.2 hX
 have hdU : Fh (X ++ b) (X.length + i) = false := by
  unfold Fh; rw [dF (show ¬ X.length + i = 0 by omega), Bool.false_and]
 rw [F6 (X ++ b) _ om hU, F6 b i om h1, hdU, hd, cF, cF]
 exact cH hU hi h60
end
inductive Ch (U : LB) : Nat → List Tk → Nat → Prop
 | nil {i : Nat} : Ch U i [] i
 | cons {i k j : Nat} {t : Tk} {L : List Tk} : i < U.length → An ⟨U, (i : Int)⟩ (DC (i : Int)) = some (0, ⟨U, (k : Int)⟩, t) → Ch U k L j → Ch U i (t :: L) j
theorem Ch.app {U : LB} {i j k : Nat} {L M : List Tk} (h : Ch U i L j) (g : Ch U j M k) : Ch U i (L ++ M) k := by
 induction h with
 | nil => exact g
 | cons h1 h2 _ ih => exact .cons h1 h2 (ih g)
theorem Ch.one {U : LB} {i k : Nat} {t : Tk} (h1 : i < U.length) (h2 : An ⟨U, (i : Int)⟩ (DC (i : Int)) = some (0, ⟨U, (k : Int)⟩, t)) : Ch U i [t] k := .cons h1 h2 .nil
theorem YT {U : LB} {i j : Nat} {L : List Tk} (h : Ch U i L j) : ∀ (T : List Tk) (m : Nat), T.length + L.length ≤ 65536 → iter BG (L.length + m) (U, (i : Int), T) = iter BG m (U, (j : Int), T ++ L) := by
 induction h with
 | nil => intro T m _; rw [lN, Nat.zero_add, List.append_nil]
 | @cons i k j t L h1 h2 _ ih =>
  intro T m hl
  rw [lC] at hl
  rw [lC, show L.length + 1 + m = (L.length + m) + 1 by omega, WD fun rec => Rw om h1 h2 rec, ih (T ++ [t]) m so]
  simp
theorem Tw {p U : LB} {L : List Tk} (hl : p.length ≤ 65536) (hp : pln p = U) (hok : OkT U) (h : Ch U 0 L U.length) (hL : L.length ≤ 65000) : Dt p = some (L, 0, 0) := by
 obtain ⟨k, hk⟩ : ∃ k, AA = L.length + (k + 1) := ⟨AA - L.length - 1, by unfold AA; omega⟩
 have hpl := JM p
 rw [hp] at hpl
 rw [XM p hl, hp]
 have hfault : Dw U = some (0, 0) := by
  rcases OE U om with ⟨hf, _⟩ | ⟨_, _, _, _, hno, _⟩
  ·exact hf
  ·exact absurd hok hno
 rw [hfault, bS]
 show cond false _ _ = _
 have := YT h [] (k + 1) so
 rw [cF, hk, show (0 : Int) = ((0 : Nat) : Int) from rfl, this, List.nil_append]
 exact Uk _ L _
theorem RW {B : LB} {j k : Nat} {t : Tk} (hB : B.length ≤ 1073741824) (hj : j < B.length) (h60 : B[j]? ≠ some 60) (h : An ⟨B, (j : Int)⟩ (DC (j : Int)) = some (0, ⟨B, (k : Int)⟩, t)) : QE B j k ∧ LV B j k = some (0, ⟨B, (k : Int)⟩, t) := by
 obtain ⟨f, hf⟩ := TB hj h60
 rw [IB om hB h60, MK hB hf] at h
 have hk : f = k := by
  obtain ⟨r, hr⟩ := GW ((B.drop j).take (f - j)) false (by rw [List.length_take, lD]; omega)
  have hrt : BD ((B.drop j).take (f - j)) = some (r.1, r.2.1, r.2.2) := by unfold BD; rw [hr]; rfl
  have hc : Ex ((B.drop j).take (f - j)) [38] = some ((Lib.countByte ((B.drop j).take (f - j)) 38 : Nat) : Int) := rfl
  unfold LV at h
  rw [hrt, bS, hc, bS] at h
  exact (Dn h).2.1
 subst hk
 exact ⟨hf, h⟩
theorem VX {c : UInt8} (h : c = 10 ∨ c = 32 ∨ c = 9 ∨ c = 122) (t : LB) : decodeL (c :: t) = (c.toNat, 1) ∧ Fy (c.toNat : Int) = [c] ∧ Ee (c.toNat : Int) = true := by
 rcases h with rfl | rfl | rfl | rfl <;> exact ⟨JO _ _ dc, by decide, by decide⟩
theorem SP {w : LB} (hl : w.length ≤ 1073741824) (hw : ∀ c ∈ w, c = 10 ∨ c = 32 ∨ c = 9 ∨ c = 122) : Cz w false = some (w, 0, 0) := by
 obtain ⟨o, e, rfl⟩ := CA (b := Ay w false) (fun i x => x = (w.take i, (i : Int))) (fun o => o = .inl w) w.length (x0 := (([] : LB), (0 : Int))) rfl (by
  rintro i _ rec hi rfl
  left
  have hd : w.drop i = w[i] :: w.drop (i + 1) := List.drop_eq_getElem_cons hi
  obtain ⟨d1, d2, d3⟩ := VX (hw _ (List.getElem_mem hi)) (w.drop (i + 1))
  have hv := hw _ (List.getElem_mem hi)
  refine ⟨(w.take (i + 1), ((i + 1 : Nat) : Int)), ?_, rfl⟩
  have h62 : ([93, 93, 62] : LB).isPrefixOf (w.drop i) = false := by
   rw [hd]; rcases hv with h | h | h | h <;> rw [h] <;> rfl
  have hn : ∀ n : Nat, (n = 60 ∨ n = 38) → w[i].toNat ≠ n := by
   intro n hn hc; rcases hv with h | h | h | h <;> rw [h] at hc <;> revert hc <;> rcases hn with rfl | rfl <;> decide
  rw [Nx (p := w) (v := false) hi hl (by rw [List.length_take]; omega) (by rw [hd, d1]; unfold Gc; exact dF (fun h => by rcases hv with h' | h' | h' | h' <;> rw [h'] at h <;> exact absurd h.1 dc)) (by rw [hd, d1]; exact d3) (by rw [hd, d1]; exact hn 60 (.inl rfl)) (by rw [hd, d1]; exact hn 38 (.inr rfl)) (fun h => by cases h) (.inr h62), hd, d1]
  dsimp only
  rw [d2, List.take_succ_eq_append_getElem hi]) (by
  rintro _ rec rfl
  refine ⟨.inl w, ?_, rfl⟩
  unfold Ay
  dsimp only
  rw [dF om, cF, List.take_length]) (n := AA) (by unfold AA; omega)
 unfold Cz
 simp only [Av]
 rw [show (([] : LB), (0 : Int)) = (([] : LB), (0 : Int)) from rfl, e]
 rfl
theorem Gn {V w R : LB} {i : Nat} (hV : V.length ≤ 65536) (h : V.drop i = w ++ R) (hR : R = [] ∨ R[0]? = some 60) (hne : w ≠ []) (hw : ∀ c ∈ w, c = 10 ∨ c = 32 ∨ c = 9 ∨ c = 122) : An ⟨V, (i : Int)⟩ (DC (i : Int)) = some (0, ⟨V, ((i + w.length : Nat) : Int)⟩, ⟨5, (i : Int), [], [], w, 0⟩) := by
 have hVb : V.length ≤ 1073741824 := by omega
 have hpos : 0 < w.length := List.length_pos_iff.2 hne
 have hl := congrArg List.length h
 rw [lD, lA] at hl
 have h60 : (60 : UInt8) ∉ w := fun hm => by rcases hw 60 hm with h | h | h | h <;> cases h
 have h38 : (38 : UInt8) ∉ w := fun hm => by rcases hw 38 hm with h | h | h | h <;> cases h
 have hat : QE V i (i + w.length) := by
  refine ⟨by omega, by omega, fun k k1 k2 hk => ?_, ?_⟩
  ·have : (V.drop i)[k - i]? = some 60 := by rw [List.getElem?_drop, show i + (k - i) = k by omega]; exact hk
   rw [h, List.getElem?_append_left om] at this
   exact h60 (List.mem_of_getElem? this)
  ·rcases hR with rfl | hR
   ·left; rw [lN] at hl; omega
   ·right
    have : (V.drop i)[w.length]? = some 60 := by rw [h, List.getElem?_append_right (Nat.le_refl _), Nat.sub_self]; exact hR
    rwa [List.getElem?_drop] at this
 have h60' : V[i]? ≠ some 60 := hat.no i (Nat.le_refl _) hat.lt
 rw [IB om hVb h60', MK hVb hat]
 unfold LV
 rw [Nat.add_sub_cancel_left, h, List.take_left]
 have hr := SP om hw
 unfold BD
 rw [hr, bS]
 have hc : Ex w [38] = some ((Lib.countByte w 38 : Nat) : Int) := rfl
 have h0 : Lib.countByte w 38 = 0 := by
  unfold Lib.countByte
  first
   | exact List.count_eq_zero.2 h38
   | (rw [List.countP_eq_zero]; intro c hc; simp; rintro rfl; exact h38 hc)
 rw [bS, hc, h0, bS]
 rfl
theorem Zx {B X W : LB} {c : UInt8} (hU : (X ++ (B ++ c :: W)).length ≤ 65536) (hc : c.toNat < 128) (hd : Fh (B ++ c :: W) 0 = false) {L : List Tk} {j : Nat} (h : Tr B L j) :
  (∀ t, L.getLast? = some t → t.Kind = 5 → j < B.length) → ∃ L', Ch (X ++ (B ++ c :: W)) X.length L' (X.length + j) ∧ L'.map (shT 0) = L.map (shT 0) := by
 have hlen : (X ++ (B ++ c :: W)).length = X.length + (B.length + (W.length + 1)) := by simp
 have A := RO B W c hc
 have hB : B.length ≤ 1073741824 := by omega
 have hBW : (B ++ c :: W).length ≤ 1073741824 := by simp; omega
 induction h with
 | nil => intro _; exact ⟨[], by rw [Nat.add_zero]; exact .nil, rfl⟩
 | @snoc L j k t h1 h2 h3 h4 h5 ih =>
  intro hlast
  obtain ⟨L', c1, c2⟩ := ih (fun _ _ _ => h2)
  have hlt := h4.lt
  have key : ∃ t', An ⟨X ++ (B ++ c :: W), ((X.length + j : Nat) : Int)⟩ (DC ((X.length + j : Nat) : Int)) = some (0, ⟨X ++ (B ++ c :: W), ((X.length + k : Nat) : Int)⟩, t') ∧ shT 0 t' = shT 0 t := by
   by_cases h60 : B[j]? = some 60
   ·have e1 := MY A hB hBW h2 h60 h3 h5
    have hdj : Fh (B ++ c :: W) j = false := by
     by_cases h0 : j = 0
     ·subst h0; exact hd
     ·unfold Fh; rw [dF h0, Bool.false_and]
    have h60' : (B ++ c :: W)[j]? = some 60 := by rw [List.getElem?_append_left h2]; exact h60
    by_cases hX : X = []
    ·subst hX
     refine ⟨t, ?_, rfl⟩
     simp only [List.nil_append, lN, Nat.zero_add]
     exact e1
    have e2 := Ya (X := X) (b := B ++ c :: W) om hX so h60' hdj
    rw [e1, Option.map_some] at e2
    refine ⟨shT ((X.length + j : Nat) : Int) t, ?_, rfl⟩
    rw [e2]
    simp only [shR]
    congr 4
   ·obtain ⟨t1, t2⟩ := RW hB h2 h60 h3
    have hk5 : t.Kind = 5 := by
     apply Classical.byContradiction; intro hn; exact h60 (h4.oth hn)
    have hkB : k < B.length := hlast t (List.getLast?_concat ..) hk5
    have hk60 : B[k]? = some 60 := by
     rcases (h4.txt hk5).2 with h | h
     ·omega
     ·exact h
    have hget : ∀ q, q < B.length → (X ++ (B ++ c :: W))[X.length + q]? = B[q]? := fun q hq => by
     rw [List.getElem?_append_right om, Nat.add_sub_cancel_left, List.getElem?_append_left hq]
    have hat : QE (X ++ (B ++ c :: W)) (X.length + j) (X.length + k) := ⟨by omega, by omega, fun x g1 g2 => by
     have := hget (x - X.length) om
     rw [show X.length + (x - X.length) = x by omega] at this
     rw [this]; exact t1.no _ om om, .inr (by rw [hget k hkB]; exact hk60)⟩
    have hseg : ((X ++ (B ++ c :: W)).drop (X.length + j)).take (X.length + k - (X.length + j)) = (B.drop j).take (k - j) := by
     rw [shd, List.drop_append_of_le_length om, show X.length + k - (X.length + j) = k - j by omega, List.take_append_of_le_length (by rw [lD]; omega)]
    rw [IB om om (by rw [hget j h2]; exact h60), MK om hat]
    unfold LV at t2 ⊢
    rw [hseg]
    obtain ⟨r, hr⟩ := GW ((B.drop j).take (k - j)) false (by rw [List.length_take, lD]; omega)
    have hrt : BD ((B.drop j).take (k - j)) = some (r.1, r.2.1, r.2.2) := by unfold BD; rw [hr]; rfl
    have hcn : Ex ((B.drop j).take (k - j)) [38] = some ((Lib.countByte ((B.drop j).take (k - j)) 38 : Nat) : Int) := rfl
    rw [hrt, bS, hcn, bS] at t2 ⊢
    obtain ⟨q1, _, q3⟩ := Dn t2
    exact ⟨_, by rw [q1], by rw [← q3]; rfl⟩
  obtain ⟨t', k1, k2⟩ := key
  exact ⟨L' ++ [t'], c1.app (Ch.one om k1), by rw [List.map_append, List.map_append, c2]; simp [k2]⟩
theorem VP {p : LB} (hp : p.length ≤ 1073741824) (h38 : (38 : UInt8) ∉ p) {t : LB} {n : Int} (h : Cz p false = some (t, n, 0)) : t = p := by
  obtain ⟨o, e, ho⟩ := Ci (b := Ay p false) (fun x => p.length - x.2.toNat) (fun x => ∃ i : Nat, x = (p.take i, (i : Int)) ∧ i ≤ p.length) (fun o => (∀ t, o = .inl t → t = p) ∧ ∀ q, o = .inr q → q.2.2 ≠ 0) (by
    rintro _ ⟨i, rfl, hi⟩
    by_cases hlt : i < p.length
    case neg =>
      right
      refine ⟨.inl (p.take i), fun rec => ?_, fun t ht => by injection ht with ht; rw [← ht, List.take_of_length_le om], fun q hq => by cases hq⟩
      unfold Ay
      dsimp only
      rw [dF om, cF]
    have bad : ∀ (q : LB × Int × Int), q.2.2 ≠ 0 → (∀ rec, Ay p false rec (p.take i, (i : Int)) = some (.inr q)) → (∃ y, (∀ rec, Ay p false rec (p.take i, (i : Int)) = rec y) ∧ (∃ i : Nat, y = (p.take i, (i : Int)) ∧ i ≤ p.length) ∧ p.length - y.2.toNat < p.length - ((p.take i, (i : Int)) : LB × Int).2.toNat) ∨ (∃ o, (∀ rec, Ay p false rec (p.take i, (i : Int)) = some o) ∧ ((∀ t, o = .inl t → t = p) ∧ ∀ q, o = .inr q → q.2.2 ≠ 0)) :=
      fun q hq hr => .inr ⟨.inr q, hr, fun t ht => (by cases ht), fun q' hq' => by injection hq' with hq'; rw [← hq']; exact hq⟩
    have hne := Qh hlt
    have hpos := MB hne
    have hdl : i + (decodeL (p.drop i)).2 ≤ p.length := (CT p i hlt).2.1
    cases hb : Gc (decodeL (p.drop i)) with
    | true =>
      refine bad ([], (i : Int), 20) (show (20 : Int) ≠ 0 by decide) fun rec => ?_
      unfold Ay
      simp only [Av]
      rw [dT om, cT, GK p i hlt hp, hb, if_pos rfl, bS]
      rfl
    | false =>
    cases hc : Ee ((decodeL (p.drop i)).1 : Int) with
    | false =>
      refine bad ([], (i : Int), 21) (show (21 : Int) ≠ 0 by decide) fun rec => ?_
      unfold Ay
      simp only [Av]
      rw [dT om, cT, GK p i hlt hp, hb, hc, if_neg (by simp), if_neg (by simp), bS]
      rfl
    | true =>
    by_cases h60 : (decodeL (p.drop i)).1 = 60
    · refine bad ([], (i : Int), 23) (show (23 : Int) ≠ 0 by decide) fun rec => ?_
      unfold Ay
      simp only [Av]
      rw [dT om, cT, GK p i hlt hp, hb, hc, if_neg (by simp), if_pos rfl, bS, h60]
      rfl
    cases hx : ([93, 93, 62] : LB).isPrefixOf (p.drop i) with
    | true =>
      refine bad ([], (i : Int), 23) (show (23 : Int) ≠ 0 by decide) fun rec => ?_
      unfold Ay
      simp only [Av]
      rw [dT om, cT, GK p i hlt hp, hb, hc, if_neg (by simp), if_pos rfl, bS]
      dsimp only
      rw [show (((0 : Int)) != 0) = false from rfl, cF, show (((decodeL (p.drop i)).1 : Int) == (60 : Int)) = false by rw [bn]; omega, cF]
      simp only [bF, cT, BU (Nat.le_of_lt hlt), bS, Cr, hx, cF]
    | false =>
    have henc := Zz hne hb
    have h38' : (decodeL (p.drop i)).1 ≠ 38 := fun h => by
      rw [h] at henc
      have h1 : Fy ((38 : Nat) : Int) = [38] := by rw [Tp _ dc]; rfl
      rw [h1] at henc
      exact h38 (List.mem_of_mem_drop (List.mem_of_mem_take (henc ▸ List.mem_singleton_self _)))
    refine .inl ⟨(p.take (i + (decodeL (p.drop i)).2), ((i + (decodeL (p.drop i)).2 : Nat) : Int)), fun rec => ?_, ⟨_, rfl, hdl⟩, by dsimp only; omega⟩
    rw [Nx hlt hp (by rw [List.length_take]; omega) hb hc h60 h38' (fun h => (by cases h)) (.inr hx), henc, List.take_add]) AA (([] : LB), (0 : Int)) ⟨0, rfl, Nat.zero_le _⟩ (by unfold AA; show p.length - _ < _; omega)
  unfold Cz at h
  simp only [Av] at h
  rw [e, bS] at h
  cases o with
  | inl q =>
    injection sj h with h _
    exact ho.1 t (by rw [h])
  | inr q =>
    have := sj h
    exact absurd (by rw [this]) (ho.2 q rfl)
theorem Ei (t : Tk) (L : List Tk) (r : Rdr) : ET (t :: L) r = (Au r t).bind fun x => if x.1 ≠ 0 then some (.inr (t.At, x.1)) else ET L x.2 := rfl
theorem Nr {A B : List Tk} {r r' : Rdr} (h : ET A r = some (.inl r')) : ET (A ++ B) r = ET B r' := by
  induction A generalizing r with
  | nil => rw [show r = r' from by injection (sj h)]; rfl
  | cons t A ih =>
    rw [List.cons_append, Ei]
    rw [Ei] at h
    obtain ⟨x, h1, h2⟩ := Bt h
    rw [h1, bS]
    by_cases hx : x.1 ≠ 0
    · rw [if_pos hx] at h2; cases sj h2
    · rw [if_neg hx] at h2 ⊢; exact ih h2
theorem Sl {A B : List Tk} {r r' : Rdr} (h : ET (A ++ B) r = some (.inl r')) : ∃ r1, ET A r = some (.inl r1) ∧ ET B r1 = some (.inl r') := by
  induction A generalizing r with
  | nil => exact ⟨r, rfl, h⟩
  | cons t A ih =>
    rw [List.cons_append, Ei] at h
    obtain ⟨x, h1, h2⟩ := Bt h
    rw [Ei, h1]
    by_cases hx : x.1 ≠ 0
    · rw [if_pos hx] at h2; cases sj h2
    · rw [if_neg hx] at h2
      obtain ⟨r1, g1, g2⟩ := ih h2
      exact ⟨r1, by rw [bS, if_neg hx]; exact g1, g2⟩
theorem Wt {L : List Tk} {r : Rdr} {x : Int × Int} (h : ET L r = some (.inr x)) : x.2 ≠ 0 := by
  induction L generalizing r with
  | nil => cases sj h
  | cons t L ih =>
    rw [Ei] at h
    obtain ⟨y, h1, h2⟩ := Bt h
    by_cases hx : y.1 ≠ 0
    · rw [if_pos hx] at h2
      have h2 := sj h2
      injection h2 with h2
      rw [← h2]; exact hx
    · rw [if_neg hx] at h2; exact ih h2
theorem T4 (r : Rdr) (t : Tk) (a : Int) : Au r (shT a t) = Au r t := by
  cases t; rfl
theorem XN {L M : List Tk} {r r' : Rdr} (he : M.map (shT 0) = L.map (shT 0)) (h : ET L r = some (.inl r')) : ET M r = some (.inl r') := by
  induction L generalizing M r with
  | nil => rw [List.map_nil, List.map_eq_nil_iff] at he; rw [he]; exact h
  | cons t L ih =>
    cases M with
    | nil => simp at he
    | cons u M =>
      rw [List.map_cons, List.map_cons] at he
      injection he with h1 h2
      rw [Ei, ← T4 r u 0, h1, T4]
      rw [Ei] at h
      obtain ⟨x, g1, g2⟩ := Bt h
      rw [g1, bS]
      by_cases hx : x.1 ≠ 0
      · rw [if_pos hx] at g2; cases sj g2
      · rw [if_neg hx] at g2 ⊢; exact ih h2 g2
theorem OL {p : LB} {d : Nd} {a : Int} (hp : p.length ≤ 1073741824) (h : A5 p = some (d, a, 0)) : ∃ L r o, p.length ≤ 65536 ∧ (∀ t ∈ L, Fit t) ∧ L.length ≤ 65536 ∧ OkT (pln p) ∧ Tr (pln p) L (pln p).length ∧ ET L r0 = some (.inl r) ∧ r.open_ = [o] ∧ r.done = true ∧ o.node = d := by
  obtain ⟨L, x, e, hA, _⟩ := Xs p hp
  by_cases he : e = 0
  case neg =>
    unfold A5 at h
    rw [hA, bS] at h
    dsimp only at h
    rw [show (e != 0) = true by simpa using he, cT] at h
    injection sj h with _ h
    injection h with _ h
    exact absurd h he
  subst he
  have hl : p.length ≤ 65536 := by
    apply Classical.byContradiction
    intro hc
    unfold Dt at hA
    rw [dT om, cT] at hA
    have := sj hA
    injection this with _ this
    injection this with _ this
    cases this
  obtain ⟨h1, h2, h3, h4, h5⟩ := QN hl hA
  rw [h5] at h
  obtain ⟨o, e1, e2⟩ := Bt h
  cases o with
  | inr y =>
    have := Wt e1
    obtain ⟨y1, y2⟩ := y
    dsimp only at e2
    injection sj e2 with _ e2
    injection e2 with _ e2
    exact absurd e2 this
  | inl r =>
    dsimp only at e2
    have hq : (∃ x, Cl p = some x) := ⟨_, NP p om⟩
    obtain ⟨x, hx⟩ := hq
    unfold Xh at e2
    rw [hx] at e2
    cases c1 : decide ((1 : Int) < (r.open_.length : Int)) with
    | true =>
      rw [c1, cT, bS] at e2
      injection sj e2 with _ e2
      injection e2 with _ e2
      cases e2
    | false =>
      rw [c1, cF] at e2
      have hlen := of_decide_eq_false c1
      cases c2 : r.done with
      | false =>
        rw [c2, bF, cT, bS] at e2
        injection sj e2 with _ e2
        injection e2 with _ e2
        cases e2
      | true =>
        rw [c2, bT, cF] at e2
        match ho : r.open_ with
        | [] => rw [ho] at e2; cases e2
        | [b] =>
          rw [ho] at e2
          have e2 : some (b.node, (0 : Int), (0 : Int)) = some (d, a, 0) := e2
          injection sj e2 with e2 _
          exact ⟨L, r, b, hl, h1, h2, h3, h4, e1, ho, c2, e2⟩
        | _ :: _ :: l => rw [ho] at hlen; simp at hlen; omega
theorem Vi {k : Nat} {r r' : Rdr} {t : Tk} {e : Int} (h : RI k r) (hk : k ≤ 70000) (ft : Fit t) (h2 : 1 < r.open_.length) (ht : AN r t = some (e, r')) : 1 < r'.open_.length := by
  obtain ⟨o, n, d⟩ := r
  match o, h2 with
  | b :: c :: l, _ =>
    obtain ⟨a1, a2, a3⟩ := h.op b List.mem_cons_self
    have hlen := h.len
    have hn0 := h.n0
    have hn1 := h.n1
    dsimp only at hlen hn0 hn1
    simp only [lC] at hlen
    by_cases h0 : t.Text = []
    · rw [NA om h0] at ht
      injection sj ht with _ ht
      rw [← ht]; simp
    have put1 : ∀ x, A0 ⟨b :: c :: l, n, d⟩ x = some (e, r') → 1 < r'.open_.length := by
      intro x hx
      rw [Lv x so om hn0 om] at hx
      have hx := sj hx
      split at hx
      · injection hx with _ hx; rw [← hx]; simp
      · injection hx with _ hx; rw [← hx]; simp
    cases hK : b.node.Kids.getLast? with
    | none =>
      have htn := KS (c := c) (l := l) (n := n) (d := d) om om hn0 om h0 (b := b) (fun x hx => by rw [hK] at hx; cases hx)
      rw [htn] at ht
      have ht := sj ht
      split at ht
      · injection ht with _ ht; rw [← ht]; simp
      · injection ht with _ ht; rw [← ht]; simp
    | some x =>
      by_cases h3 : x.Kind = 3
      · obtain ⟨ks, hks⟩ : ∃ ks, b.node.Kids = ks ++ [x] := by
          rw [List.getLast?_eq_some_iff] at hK; exact hK
        have hxl := a3 x (by rw [hks]; simp)
        have hkl := congrArg List.length hks
        rw [lA, List.length_singleton] at hkl
        have hT := ft.tx
        rw [LS om (k := ks) om h0 hks h3 om] at ht
        have ht := sj ht
        first
          | (split at ht
             · injection ht with _ ht; rw [← ht]; simp
             · injection ht with _ ht; rw [← ht]; simp)
          | (injection ht with _ ht; rw [← ht]; simp)
      · have htn := KS (c := c) (l := l) (n := n) (d := d) om om hn0 om h0 (b := b) (fun y hy => by rw [hK] at hy; rw [← sj hy]; exact h3)
        rw [htn] at ht
        have ht := sj ht
        split at ht
        · injection ht with _ ht; rw [← ht]; simp
        · injection ht with _ ht; rw [← ht]; simp
theorem Sn {B : LB} (hB : B.length ≤ 65536) (h13 : (13 : UInt8) ∉ B) {L : List Tk} {k : Nat} (h : Tr B L k) (hk : k = B.length) (ft : ∀ t ∈ L, Fit t) (hL : L.length ≤ 65536) {r : Rdr} {o : Op} (hr : ET L r0 = some (.inl r)) (ho : r.open_ = [o]) :
    ∃ L0 j, Tr B L0 j ∧ (∀ t, L0.getLast? = some t → t.Kind = 5 → j < B.length) ∧ ET L0 r0 = some (.inl r) ∧ (∀ c ∈ B.drop j, c = 10 ∨ c = 32 ∨ c = 9) ∧ (∀ t ∈ L0, Fit t) ∧ L0.length ≤ 65536 := by
  have hBb : B.length ≤ 1073741824 := by omega
  cases h with
  | nil => exact ⟨[], 0, .nil, (fun t h => by cases h), hr, (fun c hc => by rw [List.drop_zero] at hc; have : B = [] := List.length_eq_zero_iff.1 hk.symm; rw [this] at hc; cases hc), ft, hL⟩
  | @snoc L j k t h1 h2 h3 h4 h5 =>
    by_cases h5' : t.Kind = 5
    case neg => exact ⟨L ++ [t], k, .snoc h1 h2 h3 h4 h5, (fun u hu hu5 => by rw [List.getLast?_concat] at hu; rw [← sj hu] at hu5; exact absurd hu5 h5'), hr, (fun c hc => by rw [hk, List.drop_length] at hc; cases hc), ft, hL⟩
    have hLl : L.length ≤ 65535 := by rw [lA, List.length_singleton] at hL; omega
    obtain ⟨r1, g1, g2⟩ := Sl hr
    have ftL : ∀ u ∈ L, Fit u := fun u hu => ft u (List.mem_append_left _ hu)
    have ftt := ft t (by simp)
    obtain ⟨_, q1, q2, _⟩ := G6 (pre := []) (m := 0) om om (by simp) L 0 r0 O4 ftL om
    rw [g1] at q1
    obtain ⟨RI1, _⟩ := q2 r1 (sj q1).symm
    rw [Ei, IF (.inl h5')] at g2
    obtain ⟨x, g2, g3⟩ := Bt g2
    obtain ⟨y, g4, g5⟩ := Bt g2
    have g5 := sj g5
    by_cases hx : x.1 ≠ 0
    · rw [if_pos hx] at g3; cases sj g3
    rw [if_neg hx] at g3
    have hx2 : x.2 = r := by injection (sj g3)
    have hy2 : y.2 = x.2 := by rw [← g5]; unfold fin; split <;> rfl
    have hone : r1.open_.length = 1 := by
      have hne : 0 < r1.open_.length := List.length_pos_iff.2 RI1.ne
      apply Classical.byContradiction
      intro hc
      have := Vi (r' := y.2) (e := y.1) RI1 om ftt om g4
      rw [hy2, hx2, ho] at this
      simp at this
    obtain ⟨b, hb⟩ := List.length_eq_one_iff.1 hone
    obtain ⟨op, nn, dd⟩ := r1
    dsimp only at hb
    subst hb
    rw [Ih ftt.tx] at g4
    have g4 := sj g4
    have hr1 : r = ⟨[b], nn, dd⟩ := by rw [← hx2, ← hy2, ← g4]
    have hdt : GR t = false := by
      cases hd : GR t with
      | false => rfl
      | true =>
        rw [hd, if_pos rfl] at g4
        exfalso
        apply hx
        rw [← g5, ← g4]
        unfold fin
        rw [if_neg (by simp)]
        show (30 : Int) ≠ 0
        decide
    have h60 : B[j]? ≠ some 60 := (h4.txt h5').1
    obtain ⟨t1, t2⟩ := RW hBb h2 h60 h3
    unfold LV at t2
    obtain ⟨z, z1, z2⟩ := Bt t2
    obtain ⟨z3, z4, z5⟩ := Bt z2
    obtain ⟨w1, w2, w3⟩ := Dn z5
    have hseg : (B.drop j).take (k - j) = B.drop j := by rw [List.take_of_length_le (by rw [lD]; omega)]
    rw [hseg] at z1 z4
    unfold GR at hdt
    rw [Bool.or_eq_false_iff, Bool.or_eq_false_iff] at hdt
    obtain ⟨⟨_, d2⟩, d3⟩ := hdt
    have d2 := of_decide_eq_false d2
    have hcnt : Ex (B.drop j) [38] = some ((Lib.countByte (B.drop j) 38 : Nat) : Int) := rfl
    rw [hcnt] at z4
    have z4 := sj z4
    have h38 : (38 : UInt8) ∉ B.drop j := by
      intro hm
      rw [← w3] at d2
      dsimp only at d2
      rw [← z4] at d2
      apply d2
      have : 0 < Lib.countByte (B.drop j) 38 := by
        unfold Lib.countByte
        first
          | exact List.count_pos_iff.2 hm
          | (rw [List.countP_pos_iff]; exact ⟨38, hm, by decide⟩)
      omega
    have hread : z.1 = B.drop j := by
      unfold BD at z1
      obtain ⟨v, v1, v2⟩ := Bt z1
      have v2 := sj v2
      refine VP (n := z.2.1) (by rw [lD]; omega) h38 ?_
      rw [v1, ← w1, ← v2]
    have htx : t.Text = B.drop j := by rw [← w3, ← hread]
    refine ⟨L, j, h1, fun _ _ _ => h2, by rw [g1, hr1], fun c hc => ?_, ftL, by omega⟩
    have d3' : Lib.trimS t.Text [32, 9, 10, 13] = [] := by simpa using d3
    rw [htx] at d3'
    have := LH d3' c hc
    have hmem : c ∈ ([32, 9, 10, 13] : LB) := by simpa using this
    have hc13 : c ≠ 13 := fun h => h13 (List.mem_of_mem_drop (h ▸ hc))
    simp only [List.mem_cons, List.not_mem_nil, or_false] at hmem
    rcases hmem with h | h | h | h
    · exact .inr (.inl h)
    · exact .inr (.inr h)
    · exact .inl h
    · exact absurd h hc13
theorem Wq (a : Nat) (ks : List Nd) {i : Nat} (hi : i < ks.length) : szL a (ks.take (i + 1)) = szL a (ks.take i) + szN a ks[i] := by
 rw [List.take_succ_eq_append_getElem hi, JT]; rfl
theorem U7 (a : Nat) (ks : List Nd) (i : Nat) : szL a (ks.take i) ≤ szL a ks := by
 have := JT a (ks.take i) (ks.drop i)
 rw [List.take_append_drop] at this; omega
theorem TZ : ∀ (n : Nat) (x : Nd) (K : Nat), szN 0 x ≤ n → n ≤ 1099511627776 → n ≤ K → iter DW K x = some (szN 0 x : Int)
 | 0, x, K, h, _, _ => by have := EE 0 x; omega
 | n + 1, x, K, h, hn, hK => by
  obtain ⟨K, rfl⟩ : ∃ k, K = k + 1 := ⟨K - 1, by omega⟩
  have hx := EE 0 x
  have hl := PO 0 x.Kids
  have ih := fun y hy => TZ n y K hy om om
  rw [DN]
  generalize iter DW K = rc at ih ⊢
  unfold DW
  simp only [Av]
  obtain ⟨o, e, ho⟩ := CA (b := E9 x rc) (fun i s => s = (((1 + szL 0 (x.Kids.take i) : Nat) : Int), (i : Int))) (fun o => o = ((1 + szL 0 x.Kids : Nat) : Int)) x.Kids.length (x0 := ((1 : Int), (0 : Int))) rfl (by
   rintro i _ rec hi rfl
   left
   have h1 := Wq 0 x.Kids hi
   have h2 := U7 0 x.Kids i
   have h3 := K9 0 (List.getElem_mem hi)
   refine ⟨(((1 + szL 0 (x.Kids.take (i + 1)) : Nat) : Int), ((i + 1 : Nat) : Int)), ?_, rfl⟩
   unfold E9
   dsimp only
   rw [dT om, cT, Bw hi, bS, ih _ om, bS, w64 om om, w64 om om, h1]
   congr 2
   omega) (by
   rintro _ rec rfl
   refine ⟨_, ?_, rfl⟩
   unfold E9
   dsimp only
   rw [dF om, cF, List.take_length]) (n := AA) (by unfold AA; omega)
  rw [e, bS, ho, hx]
  congr 2
  omega
theorem OZ : ∀ (n : Nat) (x : Nd) (K : Nat), szN 1 x ≤ n → n ≤ 5000000000 → n ≤ K → iter BF K (x, x) = some true
 | 0, x, K, h, _, _ => by have := EE 1 x; omega
 | n + 1, x, K, h, hn, hK => by
  obtain ⟨K, rfl⟩ : ∃ k, K = k + 1 := ⟨K - 1, by omega⟩
  have hx := EE 1 x
  have hl := PO 1 x.Kids
  refine Vu om om fun k hk => ?_
  have := K9 1 hk
  exact OZ n k K om om om
theorem Xo {x : Nd} (h : szN 1 x ≤ 5000000000) : CP x x = some true := by
 unfold CP
 exact OZ _ x AA h (Nat.le_refl _) (by unfold AA; omega)
theorem W1 {x : Nd} (h : szN 0 x ≤ 5000000000) : HD x = some (szN 0 x : Int) := by
 unfold HD
 exact TZ _ x AA h om (by unfold AA; omega)
theorem RH : ∀ (n : Nat) (x : Nd), szN 1 x ≤ n → szN 0 x ≤ szN 1 x
 | 0, x, h => by have := EE 1 x; omega
 | n + 1, x, h => by
  have h0 := EE 0 x
  have h1 := EE 1 x
  have hL : ∀ ks : List Nd, (∀ k ∈ ks, szN 1 k ≤ n) → szL 0 ks ≤ szL 1 ks := by
   intro ks
   induction ks with
   | nil => intro _; exact Nat.le_refl _
   | cons k ks ih =>
    intro hk
    have a := ih fun y hy => hk y (List.mem_cons_of_mem _ hy)
    have b := RH n k (hk k List.mem_cons_self)
    show szN 0 k + szL 0 ks ≤ szN 1 k + szL 1 ks
    omega
  have := hL x.Kids fun k hk => by have := K9 1 hk; omega
  omega
def bys (y : List Int) : LB := y.map fun n => UInt8.ofNat n.toNat
theorem cz {y : List Int} (o : ∀ n ∈ y, okI .u8 n) : (bys y).map AH = y.map fun n => [D.int .u8 n] := by
 unfold bys
 rw [List.map_map]
 refine List.map_congr_left fun n hn => ?_
 have h := o n hn
 unfold okI at h
 have e1 : IntKind.min .u8 = 0 := by decide
 have e2 : IntKind.max .u8 = 255 := by decide
 rw [e1, e2] at h
 have h2 : (UInt8.ofNat n.toNat).toNat = n.toNat := by show n.toNat % 256 = n.toNat; omega
 show [D.int .u8 ((UInt8.ofNat n.toNat).toNat : Int)] = _
 rw [h2, Int.toNat_of_nonneg h.1]
theorem WB (y : List Int) : (y.map fun _ => 1).sum = y.length := by
 induction y with
 | nil => rfl
 | cons a l ih => rw [List.map_cons, List.sum_cons, ih, lC]; omega
theorem YZ (y : List Int) : (bys y).length = y.length := by unfold bys; rw [List.length_map]
def cmN (c : LB) : Nd := ⟨4, ⟨[], []⟩, [], [], c⟩
def cmT (c : LB) : Tk := ⟨7, 0, [], [], c, 0⟩
def cmW (c : LB) : LB := [60, 33, 45, 45] ++ (c ++ [45, 45, 62])
structure Cm (c : LB) : Prop where
 fst : L6 c [45, 45]
 ok : OkT c
 cr : (13 : UInt8) ∉ c
 len : c.length ≤ 8192
theorem Cm.good {c : LB} (h : Cm c) : W7 (cmT c) := .inr (.inr (.inr (.inr (.inr (.inl ⟨rfl, rfl, rfl, h.fst, h.ok, h.cr, by have := h.len; show c.length ≤ _; omega⟩)))))
theorem aT {c : LB} (h : Cm c) : OkT (cmW c) ∧ (13 : UInt8) ∉ cmW c := by
 refine ⟨F1 (GP _ dc) (F1 h.ok (GP _ dc)), fun hm => ?_⟩
 rcases List.mem_append.1 hm with hm | hm
 ·revert hm; decide
 ·rcases List.mem_append.1 hm with hm | hm
  ·exact h.cr hm
  ·revert hm; decide
theorem OM {α : Type} {P : α → Bool} : ∀ {l : List α}, (∀ c ∈ l, P c = true) → l.dropWhile P = []
 | [], _ => rfl
 | c :: l, h => by rw [List.dropWhile_cons, if_pos (h c List.mem_cons_self)]; exact OM fun x hx => h x (List.mem_cons_of_mem _ hx)
theorem Zj {w : LB} (h : ∀ c ∈ w, c = 10 ∨ c = 32 ∨ c = 9) : Lib.trimS w [32, 9, 10, 13] = [] := by
 have hc : ∀ c ∈ w, ([32, 9, 10, 13] : LB).contains c = true := fun c hm => by rcases h c hm with rfl | rfl | rfl <;> decide
 unfold Lib.trimS Lib.trimRightS Lib.trimLeftS
 have h1 : w.reverse.dropWhile (fun b => ([32, 9, 10, 13] : LB).contains b) = [] := by
  exact OM fun c hm => hc c (List.mem_reverse.1 hm)
 first
  | (rw [h1]; rfl)
  | simp [h1]
theorem N3 {b : Op} {n : Int} {d : Bool} {t : Tk} (hn : n ≤ 2000) (k : t.Kind = 5) (hr : t.Refs = 0) (hl : t.Text.length ≤ 262144) (h : ∀ c ∈ t.Text, c = 10 ∨ c = 32 ∨ c = 9) : Au ⟨[b], n, d⟩ t = some (0, ⟨[b], n, d⟩) := by
 have hd : GR t = false := by
  unfold GR
  rw [k, hr, Zj h]
  decide
 rw [IF (.inl k), Ih hl, hd, if_neg (by simp), bS, P7 hn]
theorem R7 {b : Op} {n : Int} {d : Bool} {t : Tk} (h0 : 0 ≤ n) (hn : n + 1 ≤ 2000) (hk : b.node.Kids.length ≤ 1000000) (k : t.Kind = 7) (hl : t.Text.length ≤ 8192) : Au ⟨[b], n, d⟩ t = some (0, ⟨[kid b (cmN t.Text)], n + 1, d⟩) := by
 rw [Pz k, Lv _ (by simp) om h0 om, if_neg (by show ¬ 8192 < t.Text.length; omega), bS, P7 hn]
 rfl
theorem GT {t : Tk} {L : List Tk} {r r' : Rdr} (h : Au r t = some (0, r')) : ET (t :: L) r = ET L r' := by
 rw [Ei, h, bS, if_neg (by simp)]
theorem SL {q : LB} {d : Nd} {a : Int} (hq : q.length ≤ 1000) (h : A5 (([60, 33, 45, 45] ++ q) ++ [45, 45, 62, 60, 122, 47, 62]) = some (d, a, 0)) : ∃ c, Cm c ∧ ∃ x, d.Kids[0]? = some x ∧ x.Text = c := by
 obtain ⟨L, r, o, h1, h2, h3, h4, h5, h6, h7, h8, h9⟩ := OL so h
 have hU : pln (([60, 33, 45, 45] ++ q) ++ [45, 45, 62, 60, 122, 47, 62]) = [60, 33, 45, 45] ++ lnR false (q ++ [45, 45, 62, 60, 122, 47, 62]) := by
  unfold pln
  rw [Pl (c := 60) (r := [33, 45, 45] ++ q ++ [45, 45, 62, 60, 122, 47, 62]) (by simp) dc, List.append_assoc, M8 _ _ dc]
 have h13 := Pw (([60, 33, 45, 45] ++ q) ++ [45, 45, 62, 60, 122, 47, 62])
 have hl := JM (([60, 33, 45, 45] ++ q) ++ [45, 45, 62, 60, 122, 47, 62])
 generalize pln (([60, 33, 45, 45] ++ q) ++ [45, 45, 62, 60, 122, 47, 62]) = U at hU h4 h5 h13 hl
 have hUl : U.length ≤ 65536 := by omega
 have hpos : 0 < U.length := by rw [hU]; simp
 have hL : 0 < L.length := by
  apply Classical.byContradiction
  intro hc
  have h0 : L = [] := List.length_eq_zero_iff.1 om
  have := V4 h5 [] 0 .nil h0.symm
  omega
 obtain ⟨i, k, t, t1, t2, t3, t4, t5, t6, _⟩ := aZ h5 0 hL
 have hi : i = 0 := V4 .nil _ _ t2 (by simp)
 subst hi
 have hg := (Ob hUl h4 h13 hpos t4 t5 om).1
 have h33 : U.drop 0 = 60 :: 33 :: (45 :: 45 :: lnR false (q ++ [45, 45, 62, 60, 122, 47, 62])) := by rw [List.drop_zero, hU]; rfl
 have h7k : t.Kind = 7 := by
  have hpre : AF U 0 [60, 33, 45, 45] = true := Rx (by rw [List.drop_zero]; exact hU)
  rw [F6 U 0 (Nat.zero_le _) om, T6 h33 dc, cF] at t4
  unfold Ft at t4
  rw [hpre, cT] at t4
  obtain ⟨x, x1, x2⟩ := Bt t4
  have hk := US x1
  cases hx : (x.1 != (0 : Int)) with
  | true => rw [hx, cT] at x2; rw [sj x2] at hk; exact hk
  | false =>
   rw [hx, cF] at x2
   obtain ⟨y, y1, y2⟩ := Bt x2
   have y2 := sj y2
   injection y2 with _ y2
   injection y2 with _ y2
   rw [y2] at hk; exact hk
 obtain ⟨L', rfl⟩ : ∃ L', L = t :: L' := by
  cases L with
  | nil => simp at hL
  | cons u L' => exact ⟨L', by have := sj t1; rw [this]⟩
 have hc : Cm t.Text := by
  rcases hg with ⟨k, _⟩ | ⟨k, _⟩ | ⟨k, _⟩ | ⟨k, _⟩ | ⟨k, _⟩ | ⟨k, n, p, g1, g2, g3, g4⟩ | ⟨k, _⟩
  ·omega
  ·omega
  ·omega
  ·omega
  ·omega
  ·refine ⟨g1, g2, g3, ?_⟩
   apply Classical.byContradiction
   intro hb
   rw [Ei, Pz h7k] at h6
   have : r0 = ⟨[⟨⟨1, ⟨[], []⟩, [], [], []⟩, [], ⟨[]⟩⟩], 0, false⟩ := rfl
   rw [this, Lv _ (by simp) (by simp) om om, if_pos (by show 8192 < t.Text.length; omega), bS, bS] at h6
   rw [show fin ((5 : Int), (⟨[⟨⟨1, ⟨[], []⟩, [], [], []⟩, [], ⟨[]⟩⟩], 0, false⟩ : Rdr)) = (5, ⟨[⟨⟨1, ⟨[], []⟩, [], [], []⟩, [], ⟨[]⟩⟩], 0, false⟩) from rfl, if_pos (by simp)] at h6
   cases sj h6
  ·omega
 have hr0 : r0 = ⟨[⟨⟨1, ⟨[], []⟩, [], [], []⟩, [], ⟨[]⟩⟩], 0, false⟩ := rfl
 rw [hr0, GT (R7 om om (by simp) h7k hc.len)] at h6
 have hlift : (⟨[kid ⟨⟨1, ⟨[], []⟩, [], [], []⟩, [], ⟨[]⟩⟩ (cmN t.Text)], (0 : Int) + 1, false⟩ : Rdr) = Fc [cmN t.Text] 1 r0 := rfl
 rw [hlift] at h6
 rw [lC] at h3
 obtain ⟨o', e1, e2, e3⟩ := G6 (pre := [cmN t.Text]) (m := 1) om om (by simp) L' 0 r0 O4 (fun u hu => h2 u (List.mem_cons_of_mem _ hu)) om
 cases o' with
 | inr x => obtain ⟨y, hy⟩ := e3 x rfl; rw [hy] at h6; cases sj h6
 | inl r' =>
  obtain ⟨g1, g2, g3, g4⟩ := e2 r' rfl
  by_cases hn : r'.nodes + 1 ≤ 2000
  ·rw [g3 hn] at h6
   have h6 : Fc [cmN t.Text] 1 r' = r := by injection (sj h6)
   have hop : DB [cmN t.Text] r'.open_ = [o] := by rw [← h7, ← h6]; rfl
   match ho : r'.open_, g1.ne with
   | [b], _ =>
    rw [ho] at hop
    have hop : [(⟨⟨b.node.Kind, b.node.Name, b.node.Attrs, [cmN t.Text] ++ b.node.Kids, b.node.Text⟩, b.raw, b.in_⟩ : Op)] = [o] := hop
    injection hop with hop _
    refine ⟨t.Text, hc, cmN t.Text, ?_, rfl⟩
    rw [← h9, ← hop]; rfl
   | a :: b :: l, _ =>
    rw [ho] at hop
    have := congrArg List.length hop
    rw [CU] at this
    simp at this
  ·obtain ⟨y, hy⟩ := g4 om (by show (0 : Int) + 1 ≤ 2000; omega)
   rw [hy] at h6; cases sj h6
def Xd : LB := [60, 63, 120, 109, 108, 32, 118, 101, 114, 115, 105, 111, 110, 61, 39, 49, 46, 48, 39, 63, 62]
def tD : Tk := ⟨1, 0, [], [⟨[118, 101, 114, 115, 105, 111, 110], [49, 46, 48]⟩], [], 0⟩
theorem bK : An ⟨Xd, ((0 : Nat) : Int)⟩ (DC ((0 : Nat) : Int)) = some (0, ⟨Xd, ((21 : Nat) : Int)⟩, tD) := by kernel_rfl
theorem YM {p B W : LB} {c : UInt8} (hB : B = lnR false p) (hne : B ≠ []) (hp : ¬ (4 < p.length ∧ p.take 5 = [60, 63, 120, 109, 108])) (hc : c = 10 ∨ c = 60 ∨ c = 32) : Fh (B ++ c :: W) 0 = false := by
 cases hd : Fh (B ++ c :: W) 0 with
 | false => rfl
 | true =>
  exfalso
  unfold Fh at hd
  rw [Bool.and_eq_true, Bool.and_eq_true] at hd
  have hh := hd.2.1
  have hn := fun k (hk : k < 5) => DL k hh (by simpa using hk)
  simp only [Nat.zero_add] at hn
  by_cases h5 : B.length < 5
  ·have hpos : 0 < B.length := List.length_pos_iff.2 hne
   have := hn B.length h5
   rw [List.getElem?_append_right (Nat.le_refl _), Nat.sub_self, List.getElem?_cons_zero] at this
   generalize B.length = n at this hpos h5
   have : n = 1 ∨ n = 2 ∨ n = 3 ∨ n = 4 := by omega
   rcases this with rfl | rfl | rfl | rfl <;> rcases hc with rfl | rfl | rfl <;> revert this <;> decide
  ·apply hp
   have key : ∀ (w l : LB), (10 : UInt8) ∉ w → (∀ k, k < w.length → (lnR false l)[k]? = w[k]?) → l.take w.length = w := by
    intro w
    induction w with
    | nil => intro l _ _; rfl
    | cons d w ih =>
     intro l hw h
     have h0 := h 0 (by simp)
     cases l with
     | nil => simp [lnR] at h0
     | cons e l =>
      have e1 : lnR false (e :: l) = if e = 13 then 10 :: lnR true l else if e = 10 ∧ false = true then lnR false l else e :: lnR false l := by simp only [lnR]
      rw [e1] at h
      by_cases he : e = 13
      ·rw [if_pos he] at h
       have := h 0 (by simp)
       simp at this
       exact absurd (this ▸ List.mem_cons_self) hw
      ·rw [if_neg he, if_neg (by simp)] at h
       have h0 := h 0 (by simp)
       have hed : e = d := by simpa using h0
       rw [lC, List.take_succ_cons, ih l (fun hm => hw (List.mem_cons_of_mem _ hm)) (fun k hk => by
        have := h (k + 1) so
        simpa using this), hed]
   have := key [60, 63, 120, 109, 108] p dc (fun k hk => by
    have hk5 : k < 5 := by simpa using hk
    rw [← hB, ← hn k hk5, List.getElem?_append_left om])
   have hpl := KJ false p
   rw [← hB] at hpl
   exact ⟨by omega, this⟩
structure Doc (p B : LB) (d : Nd) (L : List Tk) (j : Nat) (r : Rdr) (o : Op) : Prop where
 bq : B = lnR false p
 st : IW p = p
 len : p.length ≤ 60000
 ok : OkT B
 c0 : B[0]? = some 60
 tr : Tr B L j
 ls : ∀ t, L.getLast? = some t → t.Kind = 5 → j < B.length
 run : ET L r0 = some (.inl r)
 op : r.open_ = [o]
 dn : r.done = true
 nd : o.node = d
 ws : ∀ c ∈ B.drop j, c = 10 ∨ c = 32 ∨ c = 9
 ft : ∀ t ∈ L, Fit t
 ll : L.length ≤ 65536
theorem bI {p : LB} {d : Nd} {a : Int} (hp : p.length ≤ 60000) (h60 : p = [] ∨ p[0]? = some 60) (h : A5 p = some (d, a, 0)) : ∃ B L j r o, Doc p B d L j r o := by
 obtain ⟨L, r, o, h1, h2, h3, h4, h5, h6, h7, h8, h9⟩ := OL om h
 have hne : p ≠ [] := by
  rintro rfl
  have hL : L = [] := List.length_eq_zero_iff.1 (by have := (TQ h5).2; have : (pln ([] : LB)).length = 0 := rfl; omega)
  subst hL
  have : r = r0 := by injection (sj h6).symm
  rw [this] at h8
  cases h8
 rcases h60 with h60 | h60
 ·exact absurd h60 hne
 obtain ⟨z, rfl⟩ : ∃ z, p = 60 :: z := by
  cases p with
  | nil => exact absurd rfl hne
  | cons c z => exact ⟨z, by have := sj h60; rw [this]⟩
 have hst : IW (60 :: z) = 60 :: z := Pl rfl dc
 have hpl : pln (60 :: z) = lnR false (60 :: z) := by unfold pln; rw [hst]
 have hl := JM (60 :: z)
 have h13 := Pw (60 :: z)
 obtain ⟨L0, j, q1, q2, q3, q4, q5, q6⟩ := Sn om h13 h5 rfl h2 h3 h6 h7
 exact ⟨pln (60 :: z), L0, j, r, o, hpl, hst, hp, h4, by rw [hpl]; rfl, q1, q2, q3, h7, h8, h9, q4, q5, q6⟩
theorem Ch.stp {U : LB} {i k k' : Nat} {t : Tk} (h1 : i < U.length) (h2 : An ⟨U, (i : Int)⟩ (DC (i : Int)) = some (0, ⟨U, (k : Int)⟩, t)) (hk : k = k') : Ch U i [t] k' := by subst hk; exact .one h1 h2
theorem L8 {U R q : LB} {i : Nat} (hq : Cm q) (hU : U.length ≤ 65536) (h : U.drop i = cmW q ++ R) : An ⟨U, (i : Int)⟩ (DC (i : Int)) = some (0, ⟨U, ((i + (q.length + 7) : Nat) : Int)⟩, ⟨7, (i : Int), [], [], q, 0⟩) := by
  have hUb : U.length ≤ 1073741824 := by omega
  have h' : U.drop i = 60 :: 33 :: ([45, 45] ++ (q ++ ([45, 45] ++ 62 :: R))) := by rw [h]; simp [cmW]
  have hd4 : U.drop (i + 4) = q ++ ([45, 45] ++ 62 :: R) := HI (x := [60, 33, 45, 45]) (r := q ++ ([45, 45] ++ 62 :: R)) (b := U) (i := i) (by rw [h]; simp [cmW])
  have hd5 := HI (HI hd4)
  have hlt5 := Ps hd5
  rw [F6 U i (Nat.le_of_lt (Ps h')) hUb, T6 h' dc, cF]
  unfold Ft
  have := VO (k := 4) (t := Ni 7 i) hUb (by simp) (by simp) hd4 hq.fst
  rw [show ((4 : Nat) : Int) = (4 : Int) from rfl] at this
  rw [Rx (w := [60, 33, 45, 45]) (r := q ++ ([45, 45] ++ 62 :: R)) (by rw [h]; simp [cmW]), cT, this, bS]
  dsimp only
  rw [show ((0 : Int) != 0) = false from rfl, cF]
  rw [BW U _ _ (by simp only [lC, lN] at hlt5 ⊢; omega) hUb, if_pos (by rw [Ig, show ([45, 45] : LB).length = 2 from rfl] at *; rw [Nh hd5]; simp), bS]
  simp only [lC, lN]
  congr 4
  omega
theorem cu : An ⟨[60, 122, 47, 62], ((0 : Nat) : Int)⟩ (DC ((0 : Nat) : Int)) = some (0, ⟨[60, 122, 47, 62], ((4 : Nat) : Int)⟩, ⟨4, 0, [122], [], [], 0⟩) := by kernel_rfl
section
variable {p B : LB} {d : Nd} {L : List Tk} {j : Nat} {r : Rdr} {o : Op} (D : Doc p B d L j r o)
include D
theorem Doc.lens : B.length ≤ p.length ∧ j ≤ B.length ∧ L.length ≤ j ∧ 0 < B.length := by
  have h1 := KJ false p
  rw [← D.bq] at h1
  have h2 := TQ D.tr
  have h3 := (List.getElem?_eq_some_iff.1 D.c0).1
  exact ⟨h1, h2.1, h2.2, h3⟩
theorem Doc.moved (X W : LB) {c : UInt8} (hc : c = 10 ∨ c = 60 ∨ c = 32) (hx : ¬ (4 < p.length ∧ p.take 5 = [60, 63, 120, 109, 108])) (hU : (X ++ (B ++ c :: W)).length ≤ 65536) : ∃ L', Ch (X ++ (B ++ c :: W)) X.length L' (X.length + j) ∧ L'.map (shT 0) = L.map (shT 0) ∧ L'.length ≤ 60000 := by
  obtain ⟨l1, l2, l3, l4⟩ := D.lens
  have hlen := D.len
  obtain ⟨L', h1, h2⟩ := Zx hU (by rcases hc with rfl | rfl | rfl <;> decide) (YM D.bq (by intro h; rw [h] at l4; simp at l4) hx hc) D.tr D.ls
  have := congrArg List.length h2
  rw [List.length_map, List.length_map] at this
  exact ⟨L', h1, h2, by omega⟩
theorem Doc.size : (szN 0 d : Int) = r.nodes + 1 ∧ szN 1 d ≤ 5000000000 ∧ 0 ≤ r.nodes ∧ d.Kids.length ≤ 70000 := by
  have hll := D.ll
  obtain ⟨o', e1, e2, _⟩ := G6 (pre := []) (m := 0) om om (by simp) L 0 r0 O4 D.ft om
  rw [D.run] at e1
  obtain ⟨g1, g2, _⟩ := e2 r (sj e1).symm
  have w0 := g2.w0
  have w1 := g2.w1
  rw [D.op] at w0 w1
  have a0 : szS 0 [o] = szN 0 d := by show szN 0 o.node + 0 = _; rw [D.nd]; omega
  have a1 : szS 1 [o] = szN 1 d := by show szN 1 o.node + 0 = _; rw [D.nd]; omega
  have b0 : szS 0 r0.open_ = 1 := rfl
  have b1 : szS 1 r0.open_ = 1 := rfl
  have b2 : r0.nodes = 0 := rfl
  rw [a0, b0, b2] at w0
  rw [a1, b1] at w1
  have hk := (g1.op o (by rw [D.op]; simp)).1
  rw [D.nd] at hk
  exact ⟨by omega, by omega, g1.n0, by omega⟩
theorem Doc.nodes : r.nodes ≤ 2000 := by
  have hll := D.ll
  obtain ⟨o', e1, e2, _⟩ := G6 (pre := []) (m := 0) om om (by simp) L 0 r0 O4 D.ft om
  rw [D.run] at e1
  obtain ⟨_, _, _, g4⟩ := e2 r (sj e1).symm
  apply Classical.byContradiction
  intro hn
  obtain ⟨y, hy⟩ := g4 om (by show (0 : Int) + 0 ≤ 2000; omega)
  have : Fc [] 0 r0 = r0 := rfl
  rw [this, D.run] at hy
  cases sj hy
theorem Doc.lifted {L' : List Tk} (he : L'.map (shT 0) = L.map (shT 0)) (c : Nd) (hn : r.nodes + 1 ≤ 2000) : ET L' (Fc [c] 1 r0) = some (.inl (Fc [c] 1 r)) := by
  have hll := D.ll
  obtain ⟨o', e1, e2, _⟩ := G6 (pre := [c]) (m := 1) om om (by simp) L 0 r0 O4 D.ft om
  rw [D.run] at e1
  obtain ⟨_, _, g3, _⟩ := e2 r (sj e1).symm
  exact XN he (g3 hn)
theorem Doc.rest (c : UInt8) (W : LB) : (B ++ c :: W).drop j = B.drop j ++ c :: W := List.drop_append_of_le_length D.lens.2.1
theorem Doc.cr : (13 : UInt8) ∉ B := by rw [D.bq]; exact K3 _ _
theorem Doc.wsok : ∀ c ∈ B.drop j, c = 10 ∨ c = 32 ∨ c = 9 ∨ c = 122 := fun c hc => by rcases D.ws c hc with h | h | h <;> simp [h]
theorem X8 {q : LB} (hq : Cm q) (hql : q.length ≤ 100) (hn : r.nodes + 2 ≤ 2000) (hx : ¬ (4 < p.length ∧ p.take 5 = [60, 63, 120, 109, 108])) :
    ∃ y, A5 ((((((([60, 63, 120, 109, 108, 32, 118, 101, 114, 115, 105, 111, 110, 61, 39, 49, 46, 48, 39, 63, 62, 10, 32, 60, 33, 45, 45] : LB) ++ q) ++ ([45, 45, 62, 9] : LB)) ++ p) ++ ([13, 10, 60, 33, 45, 45] : LB)) ++ q) ++ ([45, 45, 62, 32] : LB)) = some (y, 0, 0) ∧ y.Kids = cmN q :: (d.Kids ++ [cmN q]) := by
  obtain ⟨l1, l2, l3, l4⟩ := D.lens
  have hlen := D.len
  obtain ⟨s1, s2, s3, s4⟩ := D.size
  obtain ⟨ck, c13⟩ := aT hq
  have hcl : (cmW q).length = q.length + 7 := by simp [cmW] <;> omega
  generalize hP : ((((((([60, 63, 120, 109, 108, 32, 118, 101, 114, 115, 105, 111, 110, 61, 39, 49, 46, 48, 39, 63, 62, 10, 32, 60, 33, 45, 45] : LB) ++ q) ++ ([45, 45, 62, 9] : LB)) ++ p) ++ ([13, 10, 60, 33, 45, 45] : LB)) ++ q) ++ ([45, 45, 62, 32] : LB)) = P
  obtain ⟨X, hX⟩ : ∃ X, X = Xd ++ ([10, 32] ++ (cmW q ++ [9])) := ⟨_, rfl⟩
  have hXl : X.length = q.length + 31 := by rw [hX]; simp [Xd, cmW] <;> omega
  have hPX : P = X ++ (p ++ 13 :: (10 :: (cmW q ++ [32]))) := by rw [← hP, hX]; simp [Xd, cmW]
  have hX13 : (13 : UInt8) ∉ X := by
    rw [hX]; intro hm
    rcases List.mem_append.1 hm with hm | hm
    · revert hm; decide
    · rcases List.mem_append.1 hm with hm | hm
      · revert hm; decide
      · rcases List.mem_append.1 hm with hm | hm
        · exact c13 hm
        · revert hm; decide
  have hw13 : (13 : UInt8) ∉ cmW q ++ [32] := fun hm => by
    rcases List.mem_append.1 hm with hm | hm
    · exact c13 hm
    · revert hm; decide
  have hpl : pln P = X ++ (B ++ 10 :: (cmW q ++ [32])) := by
    unfold pln
    rw [Pl (c := 60) (r := ([63, 120, 109, 108, 32, 118, 101, 114, 115, 105, 111, 110, 61, 39, 49, 46, 48, 39, 63, 62] ++ ([10, 32] ++ (cmW q ++ [9]))) ++ (p ++ 13 :: (10 :: (cmW q ++ [32])))) (by rw [hPX, hX]; rfl) dc, hPX, M8 _ _ hX13, MG 13 _ dc, ← D.bq]
    have e : lnR false (13 :: (10 :: (cmW q ++ [32]))) = 10 :: (cmW q ++ [32]) := by
      have h1 : lnR false (13 :: (10 :: (cmW q ++ [32]))) = 10 :: lnR true (10 :: (cmW q ++ [32])) := rfl
      have h2 : lnR true (10 :: (cmW q ++ [32])) = lnR false (cmW q ++ [32]) := rfl
      rw [h1, h2, Sg _ hw13]
    rw [e]
  have hPl : P.length ≤ 65536 := by
    rw [hPX]; simp only [lA, lC, lN]; omega
  have hUl := JM P
  rw [hpl] at hUl
  have hU : (X ++ (B ++ 10 :: (cmW q ++ [32]))).length ≤ 65536 := by omega
  have hok : OkT (X ++ (B ++ 10 :: (cmW q ++ [32]))) := by
    refine F1 ?_ (F1 D.ok (O3 10 _ dc dc (F1 ck (GP _ dc))))
    rw [hX]; exact F1 (GP _ dc) (F1 (GP _ dc) (F1 ck (GP _ dc)))
  obtain ⟨L', m1, m2, m3⟩ := D.moved X (cmW q ++ [32]) (c := 10) (.inl rfl) hx hU
  have hlenU : (X ++ (B ++ 10 :: (cmW q ++ [32]))).length = X.length + (B.length + (q.length + 9)) := by simp only [lA, lC, lN]; omega
  generalize hUU : X ++ (B ++ 10 :: (cmW q ++ [32])) = U at *
  have h0 : U.drop 0 = Xd ++ ([10, 32] ++ (cmW q ++ ([9] ++ (B ++ 10 :: (cmW q ++ [32]))))) := by rw [List.drop_zero, ← hUU, hX]; simp
  have hXdl : Xd.length = 21 := rfl
  have t0 : An ⟨U, ((0 : Nat) : Int)⟩ (DC ((0 : Nat) : Int)) = some (0, ⟨U, ((21 : Nat) : Int)⟩, tD) := by
    have A := RO Xd (32 :: (cmW q ++ ([9] ++ (B ++ 10 :: (cmW q ++ [32]))))) 10 dc
    have hUe : Xd ++ 10 :: (32 :: (cmW q ++ ([9] ++ (B ++ 10 :: (cmW q ++ [32]))))) = U := by rw [List.drop_zero] at h0; rw [h0]; rfl
    rw [hUe] at A
    exact MY A dc om dc dc bK dc
  have d1 : U.drop 21 = [10, 32] ++ (cmW q ++ ([9] ++ (B ++ 10 :: (cmW q ++ [32])))) := by
    have := HI h0; rw [hXdl] at this; simpa using this
  have t1 := Gn (V := U) (i := 21) hU d1 (.inr rfl) (by simp) dc
  have d2 : U.drop 23 = cmW q ++ ([9] ++ (B ++ 10 :: (cmW q ++ [32]))) := HI d1
  have t2 := L8 hq (i := 23) hU d2
  have d3 : U.drop (23 + (cmW q).length) = [9] ++ (B ++ 10 :: (cmW q ++ [32])) := HI (x := cmW q) d2
  rw [hcl] at d3
  have t3 := Gn (V := U) (i := 23 + (q.length + 7)) hU d3 (.inr (by rw [List.getElem?_append_left l4]; exact D.c0)) (by simp) dc
  have d4 : U.drop (X.length + j) = (B.drop j ++ [10]) ++ (cmW q ++ [32]) := by rw [← hUU, shd, D.rest]; simp
  have t4 := Gn (V := U) (i := X.length + j) hU d4 (.inr rfl) (by simp) (fun c hc => by
    rcases List.mem_append.1 hc with hc | hc
    · exact D.wsok c hc
    · rw [List.mem_singleton.1 hc]; simp)
  have l4' : (B.drop j ++ [10]).length = B.length - j + 1 := by rw [lA, lD]; rfl
  rw [l4'] at t4
  have d5 : U.drop (X.length + j + (B.length - j + 1)) = cmW q ++ [32] := by have := HI d4; rw [l4'] at this; exact this
  have t5 := L8 hq (i := X.length + j + (B.length - j + 1)) hU d5
  have d6 : U.drop (X.length + j + (B.length - j + 1) + (cmW q).length) = [32] ++ [] := HI (x := cmW q) d5
  rw [hcl] at d6
  have t6 := Gn (V := U) (i := X.length + j + (B.length - j + 1) + (q.length + 7)) hU d6 (.inl rfl) (by simp) dc
  have ch1 := ((Ch.stp om t0 rfl).app (Ch.stp om t1 (k' := 23) rfl)).app ((Ch.stp om t2 rfl).app (Ch.stp om t3 (k' := X.length) so))
  have ch3 := (Ch.stp om t4 rfl).app ((Ch.stp om t5 rfl).app (Ch.stp om t6 (k' := U.length) so))
  have ch := ch1.app (m1.app ch3)
  have hscan := Tw hPl hpl hok ch so
  have g1 : ET (([tD] ++ [⟨5, ((21 : Nat) : Int), [], [], [10, 32], 0⟩]) ++ ([⟨7, ((23 : Nat) : Int), [], [], q, 0⟩] ++ [⟨5, ((23 + (q.length + 7) : Nat) : Int), [], [], [9], 0⟩])) r0 = some (.inl (Fc [cmN q] 1 r0)) := by
    have hr0 : r0 = ⟨[⟨⟨1, ⟨[], []⟩, [], [], []⟩, [], ⟨[]⟩⟩], 0, false⟩ := rfl
    simp only [List.cons_append, List.nil_append]
    rw [GT (t := tD) (r' := r0) (by rw [Th rfl]; rfl), hr0, GT (N3 om rfl rfl (by simp) dc), GT (R7 om om (by simp) rfl hq.len), GT (N3 om rfl rfl (by simp) (fun c hc => by rw [List.mem_singleton.1 hc]; simp))]
    rfl
  have hlift : Fc [cmN q] 1 r = ⟨[⟨⟨o.node.Kind, o.node.Name, o.node.Attrs, [cmN q] ++ o.node.Kids, o.node.Text⟩, o.raw, o.in_⟩], r.nodes + 1, true⟩ := by
    show (⟨DB [cmN q] r.open_, r.nodes + 1, r.done⟩ : Rdr) = _
    rw [D.op, D.dn]; rfl
  have hkids : o.node.Kids.length ≤ 70000 := by rw [D.nd]; exact s4
  have g3 : ET ([⟨5, ((X.length + j : Nat) : Int), [], [], B.drop j ++ [10], 0⟩] ++ ([⟨7, ((X.length + j + (B.length - j + 1) : Nat) : Int), [], [], q, 0⟩] ++ [⟨5, ((X.length + j + (B.length - j + 1) + (q.length + 7) : Nat) : Int), [], [], [32], 0⟩])) (Fc [cmN q] 1 r) = some (.inl ⟨[kid ⟨⟨o.node.Kind, o.node.Name, o.node.Attrs, [cmN q] ++ o.node.Kids, o.node.Text⟩, o.raw, o.in_⟩ (cmN q)], r.nodes + 1 + 1, true⟩) := by
    rw [hlift]
    simp only [List.cons_append, List.nil_append]
    rw [GT (N3 om rfl rfl (by rw [l4']; omega) (fun c hc => by
      rcases List.mem_append.1 hc with hc | hc
      · exact D.ws c hc
      · rw [List.mem_singleton.1 hc]; simp)), GT (R7 om om so rfl hq.len), GT (N3 om rfl rfl (by simp) (fun c hc => by rw [List.mem_singleton.1 hc]; simp))]
    rfl
  rw [NU hscan so, Nr g1, Nr (D.lifted m2 (cmN q) om), g3, bS]
  refine ⟨_, rfl, ?_⟩
  show ([cmN q] ++ o.node.Kids) ++ [cmN q] = _
  rw [D.nd]; simp
theorem Doc.parse_bad {P U W : LB} {c : UInt8} {L3 : List Tk} {L' : List Tk} {x : Int × Int} (hPl : P.length ≤ 65536) (hpl : pln P = U) (hok : OkT U) (h1 : Ch U 0 L' j) (hL : L'.length ≤ 60000) (h3 : Ch U j L3 U.length) (hL3 : L3.length ≤ 100) (he : L'.map (shT 0) = L.map (shT 0)) (hr : ET L3 r = some (.inr x)) : A5 P = some (nd0, x.1, x.2) := by
  have hscan := Tw hPl hpl hok (h1.app h3) so
  rw [NU hscan so, Nr (XN he D.run), hr, bS]
theorem Doc.rEq : r = ⟨[o], r.nodes, true⟩ := by
  have h1 := D.op
  have h2 := D.dn
  obtain ⟨a, b, c⟩ := r
  dsimp only at h1 h2
  rw [h1, h2]
end
theorem Ss {b : Op} {n : Int} {t : Tk} : AE ⟨[b], n, true⟩ t = some (30, ⟨[b], n, true⟩) := by
  unfold AE
  simp only [Av]
  rw [show ((([b] : List Op).length : Int) == 1) = true from rfl, cT, cT]
def lZ : Tk := ⟨4, 0, [122], [], [], 0⟩
section
variable {p B : LB} {d : Nd} {L : List Tk} {j : Nat} {r : Rdr} {o : Op} (D : Doc p B d L j r o)
include D
theorem Doc.plnB {c : UInt8} {W : LB} (hc : c = 60 ∨ c = 32) (h13 : (13 : UInt8) ∉ W) : pln (p ++ c :: W) = B ++ c :: W := by
  have hc10 : c ≠ 10 := by rcases hc with rfl | rfl <;> decide
  have hc13 : (13 : UInt8) ∉ c :: W := fun hm => by
    rcases List.mem_cons.1 hm with h | h
    · rcases hc with rfl | rfl <;> cases h
    · exact h13 h
  have hst : IW (p ++ c :: W) = p ++ c :: W := by rw [Vn _ _ _ (by rcases hc with rfl | rfl <;> decide), D.st]
  unfold pln
  rw [hst, MG c W hc10, Sg _ hc13, ← D.bq]
theorem Ym (hx : ¬ (4 < p.length ∧ p.take 5 = [60, 63, 120, 109, 108])) : ∃ a, A5 (p ++ [60, 122, 47, 62]) = some (nd0, a, 30) := by
  obtain ⟨l1, l2, l3, l4⟩ := D.lens
  have hlen := D.len
  obtain ⟨s1, s2, s3, s4⟩ := D.size
  have hpl := D.plnB (c := 60) (W := [122, 47, 62]) (.inl rfl) dc
  have hPl : (p ++ 60 :: [122, 47, 62]).length ≤ 65536 := by simp; omega
  have hlU : (B ++ 60 :: [122, 47, 62]).length = B.length + 4 := by simp
  have hU : (B ++ 60 :: [122, 47, 62]).length ≤ 65536 := by omega
  obtain ⟨L', m1, m2, m3⟩ := D.moved [] [122, 47, 62] (c := 60) (.inr (.inl rfl)) hx hU
  simp only [List.nil_append, lN, Nat.zero_add] at m1
  have hok : OkT (B ++ 60 :: [122, 47, 62]) := F1 D.ok (GP _ dc)
  have hrest := D.rest 60 [122, 47, 62]
  have t2 : An ⟨B ++ 60 :: [122, 47, 62], (B.length : Int)⟩ (DC (B.length : Int)) = some (0, ⟨B ++ 60 :: [122, 47, 62], ((B.length + 4 : Nat) : Int)⟩, ⟨4, (B.length : Int), [122], [], [], 0⟩) := by
    have := Ya (X := B) (b := 60 :: [122, 47, 62]) om (i := 0) (by intro h; rw [h] at l4; simp at l4) dc rfl dc
    rw [cu, Nat.add_zero] at this
    rw [this]
    rfl
  generalize hUU : B ++ 60 :: [122, 47, 62] = U at *
  have hz : ET [⟨4, (B.length : Int), [122], [], [], 0⟩] r = some (.inr ((B.length : Int), 30)) := by
    rw [D.rEq, Ei, Tb rfl, Ss, bS]
    rfl
  have e2 : Ch U B.length [⟨4, (B.length : Int), [122], [], [], 0⟩] U.length := Ch.stp om t2 (by rw [hlU])
  by_cases hj : j = B.length
  · subst hj
    exact ⟨_, D.parse_bad (c := 60) (W := []) hPl hpl hok m1 m3 e2 (by simp) m2 hz⟩
  · have t1 := Gn (V := U) (i := j) hU hrest (.inr rfl) (by intro h; have := congrArg List.length h; rw [lD, lN] at this; omega) D.wsok
    rw [lD] at t1
    have e1 := Ch.stp om t1 (k' := B.length) om
    refine ⟨_, D.parse_bad (c := 60) (W := []) hPl hpl hok m1 m3 (e1.app e2) (by simp) m2 (x := ((B.length : Int), 30)) ?_⟩
    rw [List.singleton_append, D.rEq, GT (N3 (b := o) (d := true) D.nodes rfl rfl (by rw [lD]; omega) D.ws), ← D.rEq]
    exact hz
theorem W8 (hx : ¬ (4 < p.length ∧ p.take 5 = [60, 63, 120, 109, 108])) : ∃ a, A5 (p ++ [32, 122, 32]) = some (nd0, a, 30) := by
  obtain ⟨l1, l2, l3, l4⟩ := D.lens
  have hlen := D.len
  have hpl := D.plnB (c := 32) (W := [122, 32]) (.inr rfl) dc
  have hPl : (p ++ 32 :: [122, 32]).length ≤ 65536 := by simp; omega
  have hlU : (B ++ 32 :: [122, 32]).length = B.length + 3 := by simp
  have hU : (B ++ 32 :: [122, 32]).length ≤ 65536 := by omega
  obtain ⟨L', m1, m2, m3⟩ := D.moved [] [122, 32] (c := 32) (.inr (.inr rfl)) hx hU
  simp only [List.nil_append, lN, Nat.zero_add] at m1
  have hok : OkT (B ++ 32 :: [122, 32]) := F1 D.ok (GP _ dc)
  have hrest := D.rest 32 [122, 32]
  generalize hUU : B ++ 32 :: [122, 32] = U at *
  have t1 := Gn (V := U) (i := j) (w := B.drop j ++ 32 :: [122, 32]) (R := []) hU (by rw [hrest]; simp) (.inl rfl) (by simp) (fun c hc => by
    rcases List.mem_append.1 hc with hc | hc
    · exact D.wsok c hc
    · exact (by decide : ∀ c : UInt8, c ∈ ([32, 122, 32] : LB) → c = 10 ∨ c = 32 ∨ c = 9 ∨ c = 122) c hc)
  have hl : (B.drop j ++ 32 :: [122, 32]).length = B.length - j + 3 := by rw [lA, lD]; rfl
  rw [hl] at t1
  have e1 := Ch.stp om t1 (k' := U.length) om
  refine ⟨_, D.parse_bad (c := 60) (W := []) hPl hpl hok m1 m3 e1 (by simp) m2 (x := ((j : Int), 30)) ?_⟩
  have hd : GR (⟨5, (j : Int), [], [], B.drop j ++ 32 :: [122, 32], 0⟩ : Tk) = true := by
    unfold GR
    cases hh : (Lib.trimS (B.drop j ++ 32 :: [122, 32]) [32, 9, 10, 13] == []) with
    | false => simp [hh]
    | true =>
      exfalso
      have := LH (by simpa using hh) 122 (by simp)
      revert this; decide
  rw [D.rEq, Ei, IF (.inl rfl), Ih (by dsimp only; rw [hl]; omega), hd, if_pos rfl, bS, bS]
  rfl
end
theorem jn {f : Bool → Option Bool} {g : (Bool → Option Bool) → Option Bool} {R : Option Bool} (v : Bool) (hg : ∀ f, g f = f v) (ht : v = true → f true = R) (hf : v = false → f false = R) : Av f g = R := by
  show g f = R
  rw [hg]
  cases v with
  | true => exact ht rfl
  | false => exact hf rfl
theorem parseAround (p q : LB) (hp : p.length ≤ 1073741824) : Dj p q = some true := by
  unfold Dj
  rw [Y6, bS, bT, cF]
  obtain ⟨⟨d, a, e⟩, hP⟩ := Lu p hp
  rw [hP, bS]
  dsimp only
  refine jn ((((e != (0 : Int)) || (decide ((60000 : Int) < (p.length : Int)))) || (decide ((100 : Int) < (q.length : Int)))) || (decide (0 < p.length) && (p.getD 0 0 != 60))) (fun f => ?_) (fun _ => rfl) (fun hv => ?_)
  · cases (((e != (0 : Int)) || (decide ((60000 : Int) < (p.length : Int)))) || (decide ((100 : Int) < (q.length : Int)))) with
    | true => rfl
    | false =>
      rw [cF]
      cases p with
      | nil => rfl
      | cons c p =>
        show cond (decide ((0 : Int) < ((c :: p).length : Int))) ((idx (c :: p) (0 : Int)).bind fun x13 => f ((x13.toNat : Int) != (60 : Int))) (f false) = _
        rw [dT (by simp <;> omega), cT, show idx (c :: p) (0 : Int) = some c from rfl, bS]
        have : ((c.toNat : Int) != (60 : Int)) = (c != 60) := by
          rw [Bool.eq_iff_iff, bne_iff_ne, bne_iff_ne]
          constructor
          · intro h hc; subst hc; exact h rfl
          · intro h hc; exact h (UInt8.toNat_inj.1 (by show c.toNat = 60; omega))
        rw [this]
        simp
  simp only [Bool.or_eq_false_iff, Bool.and_eq_false_iff, decide_eq_false_iff_not, bne_eq_false_iff_eq] at hv
  obtain ⟨⟨⟨he, hpl⟩, hql⟩, h60⟩ := hv
  subst he
  rw [cF, Il so, bS, Il so, bS]
  obtain ⟨⟨dx, ax, ex⟩, hX⟩ := Lu (([60, 33, 45, 45] ++ q) ++ [45, 45, 62, 60, 122, 47, 62]) so
  rw [hX, bS]
  dsimp only
  refine jn (((ex != (0 : Int)) || ((dx.Kids.length : Int) != (2 : Int))) || ((dx.Kids.getD 0 nd0).Kind != (4 : Int))) (fun f => ?_) (fun _ => rfl) (fun hv => ?_)
  · cases hc : ((ex != (0 : Int)) || ((dx.Kids.length : Int) != (2 : Int))) with
    | true => rfl
    | false =>
      rw [Bool.or_eq_false_iff] at hc
      have h2 : (dx.Kids.length : Int) = 2 := by simpa using hc.2
      rw [cF]
      cases hk : dx.Kids with
      | nil => rw [hk] at h2; simp at h2
      | cons y ks => rfl
  simp only [Bool.or_eq_false_iff, bne_eq_false_iff_eq] at hv
  obtain ⟨⟨hex, hxl⟩, hxk⟩ := hv
  subst hex
  obtain ⟨c, hcm, x, hx0, hxc⟩ := SL om hX
  refine jn (!(x.Text == q)) (fun f => ?_) (fun _ => rfl) (fun hv => ?_)
  · rw [cF, show (0 : Int) = ((0 : Nat) : Int) from rfl, Xv, hx0, bS]
  have hxq : x.Text = q := by simpa using hv
  have hcq : c = q := hxc.symm.trans hxq
  subst hcq
  refine jn (decide (4 < p.length) && (p.take 5 == [60, 63, 120, 109, 108])) (fun f => ?_) (fun _ => rfl) (fun hv => ?_)
  · rw [cF]
    by_cases h4 : 4 < p.length
    · have : slc p (0 : Int) (5 : Int) = some (p.take 5) := by
        unfold slc; rw [if_pos om]; rfl
      show cond (decide ((4 : Int) < (p.length : Int))) ((slc p (0 : Int) (5 : Int)).bind fun x32 => f (x32 == ([60, 63, 120, 109, 108] : LB))) (f false) = _
      rw [dT om, cT, this, bS, dT h4, Bool.true_and]
    · show cond (decide ((4 : Int) < (p.length : Int))) _ (f false) = _
      rw [dF om, cF, dF h4, Bool.false_and]
  have hnx : ¬ (4 < p.length ∧ p.take 5 = [60, 63, 120, 109, 108]) := by
    rintro ⟨a1, a2⟩
    rw [dT a1, a2] at hv
    simp at hv
  have hpl' : p.length ≤ 60000 := by omega
  have h60' : p = [] ∨ p[0]? = some 60 := by
    cases p with
    | nil => exact .inl rfl
    | cons c p => exact .inr (by rcases h60 with h | h; · simp at h
                                 · simpa using h)
  obtain ⟨B, L, j, r, o, D⟩ := bI hpl' h60' hP
  obtain ⟨s1, s2, s3, s4⟩ := D.size
  have hq100 : c.length ≤ 100 := by omega
  rw [cF]
  repeat (first | rw [Il (by simp only [lA, lC, lN]; omega), bS])
  obtain ⟨⟨dy, ay, ey⟩, hY⟩ := Lu ((((((([60, 63, 120, 109, 108, 32, 118, 101, 114, 115, 105, 111, 110, 61, 39, 49, 46, 48, 39, 63, 62, 10, 32, 60, 33, 45, 45] : LB) ++ c) ++ ([45, 45, 62, 9] : LB)) ++ p) ++ ([13, 10, 60, 33, 45, 45] : LB)) ++ c) ++ ([45, 45, 62, 32] : LB)) (by simp only [lA, lC, lN]; omega)
  obtain ⟨ah, hH⟩ := Ym D hnx
  obtain ⟨ai, hI⟩ := W8 D hnx
  have hs0 : szN 0 d ≤ 5000000000 := by have := RH _ d (Nat.le_refl _); omega
  rw [hY, bS]
  repeat (first | rw [Il (by simp only [lA, lC, lN]; omega), bS])
  rw [hH, bS]
  repeat (first | rw [Il (by simp only [lA, lC, lN]; omega), bS])
  rw [hI, bS, W1 hs0, bS]
  dsimp only
  by_cases hsz : 2001 < szN 0 d + 2
  · rw [w64 om om, dT om, cT]
  rw [w64 (x := (szN 0 d : Int) + 2) om om, dF om, cF]
  obtain ⟨y, hYy, hyk⟩ := X8 D hcm hq100 om hnx
  rw [hY] at hYy
  have hYy := sj hYy
  injection hYy with hy1 hYy
  injection hYy with _ hy3
  subst hy1 hy3
  have hyl : dy.Kids.length = d.Kids.length + 2 := by rw [hyk]; simp
  have g0 : idx dy.Kids (0 : Int) = some (cmN c) := by rw [hyk]; rfl
  have g1 : idx dy.Kids (IntKind.wrap .i64 ((dy.Kids.length : Int) - (1 : Int))) = some (cmN c) := by
    rw [w64 om om]
    exact ae (U := cmN c :: d.Kids) (V := []) (by rw [hyk]; simp) (by rw [hyl]; simp; omega)
  have hloop : iter (BB (d, a, 0) (dy, ay, 0)) AA (0 : Int) = some (.inl ()) := by
    obtain ⟨o', e', rfl⟩ := CA (b := BB (d, a, 0) (dy, ay, 0)) (fun i x => x = (i : Int)) (fun o => o = .inl ()) d.Kids.length (x0 := (0 : Int)) rfl (by
      rintro i _ rec hi rfl
      left
      refine ⟨((i + 1 : Nat) : Int), ?_, rfl⟩
      have w1 : IntKind.wrap .i64 ((i : Int) + 1) = ((i + 1 : Nat) : Int) := by rw [w64 om om]; omega
      have e1 : idx dy.Kids ((i + 1 : Nat) : Int) = some d.Kids[i] := by
        rw [Xv, hyk, List.getElem?_cons_succ, List.getElem?_append_left hi, List.getElem?_eq_getElem hi]
      have hsame : CP d.Kids[i] d.Kids[i] = some true := by
        refine Xo ?_
        have h1 := K9 1 (List.getElem_mem hi)
        have h2 := EE 1 d
        omega
      unfold BB
      dsimp only
      rw [dT om, cT, Bw hi, bS, w1, e1, bS, hsame, bS, bT, cF]) (by
      rintro _ rec rfl
      refine ⟨_, ?_, rfl⟩
      unfold BB
      dsimp only
      rw [dF om, cF]) (n := AA) (by unfold AA; omega)
    exact e'
  refine jn false (fun f => ?_) (fun h => by cases h) (fun _ => ?_)
  · rw [hyl, w64 om om]
    rw [show ((((((0 : Int) != 0) || (((d.Kids.length + 2 : Nat) : Int) != (d.Kids.length : Int) + 2)) || ((30 : Int) != 30)) || ((30 : Int) != 30))) = false by simp, cF, g0, bS]
    simp [cmN]
  refine jn false (fun f => ?_) (fun h => by cases h) (fun _ => ?_)
  · rw [cF, g1, bS]
    simp [cmN]
  rw [cF]
  show (iter (BB (d, a, 0) (dy, ay, 0)) AA (0 : Int)).bind _ = _
  rw [hloop]
  rfl
end Go.Proofs.YtilhbalhkljanaaGreatDoor
