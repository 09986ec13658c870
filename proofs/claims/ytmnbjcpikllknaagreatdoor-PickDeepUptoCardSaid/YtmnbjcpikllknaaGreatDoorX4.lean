/- UTF-8, read by two codes: the same. No condition. -/
import Derived.Lib.ValidLaws
import Derived.Lib.IndexMore
import Derived.Test.YtmnbjcpikllknaaGreatDoorX1
set_option linter.unusedSimpArgs false
set_option linter.unusedVariables false
set_option maxRecDepth 20000
namespace Go.Proofs.YtmnbjcpikllknaaGreatDoor
open Go.Lib (decodeL decodeN)
def Ah3 (n b0 b1 b2 b3 : Nat) : Int × Int :=
 if b0 < 128 then (b0, 1)
 else if 192 <= b0 /\ b0 < 224 then
  (if n < 2 then (0, 0) else if b1 < 128 \/ 191 < b1 then (0, 0) else
   if (64 * ((b0 : Int) - 192) + b1 - 128 < 128 \/ 1114111 < 64 * ((b0 : Int) - 192) + b1 - 128) \/ (55296 <= 64 * ((b0 : Int) - 192) + b1 - 128 /\ 64 * ((b0 : Int) - 192) + b1 - 128 <= 57343) then (0, 0) else (64 * ((b0 : Int) - 192) + b1 - 128, 2))
 else if 224 <= b0 /\ b0 < 240 then
  (if n < 3 then (0, 0) else if b1 < 128 \/ 191 < b1 then (0, 0) else if b2 < 128 \/ 191 < b2 then (0, 0) else
   if (64 * (64 * ((b0 : Int) - 224) + b1 - 128) + b2 - 128 < 2048 \/ 1114111 < 64 * (64 * ((b0 : Int) - 224) + b1 - 128) + b2 - 128) \/ (55296 <= 64 * (64 * ((b0 : Int) - 224) + b1 - 128) + b2 - 128 /\ 64 * (64 * ((b0 : Int) - 224) + b1 - 128) + b2 - 128 <= 57343) then (0, 0) else (64 * (64 * ((b0 : Int) - 224) + b1 - 128) + b2 - 128, 3))
 else if 240 <= b0 /\ b0 < 248 then
  (if n < 4 then (0, 0) else if b1 < 128 \/ 191 < b1 then (0, 0) else if b2 < 128 \/ 191 < b2 then (0, 0) else if b3 < 128 \/ 191 < b3 then (0, 0) else
   if (64 * (64 * (64 * ((b0 : Int) - 240) + b1 - 128) + b2 - 128) + b3 - 128 < 65536 \/ 1114111 < 64 * (64 * (64 * ((b0 : Int) - 240) + b1 - 128) + b2 - 128) + b3 - 128) \/ (55296 <= 64 * (64 * (64 * ((b0 : Int) - 240) + b1 - 128) + b2 - 128) + b3 - 128 /\ 64 * (64 * (64 * ((b0 : Int) - 240) + b1 - 128) + b2 - 128) + b3 - 128 <= 57343) then (0, 0) else (64 * (64 * (64 * ((b0 : Int) - 240) + b1 - 128) + b2 - 128) + b3 - 128, 4))
 else (0, 0)
def Aho (d : Nat × Nat) : Bool := decide (d.1 = 65533 /\ d.2 = 1)

set_option linter.unusedSimpArgs false
set_option linter.unusedVariables false
set_option maxRecDepth 20000
open Go.Lib (decodeL decodeN)
abbrev bt (l : List By8) (k : Nat) : Nat := (l.getD k 0).toNat

set_option linter.unusedSimpArgs false
set_option linter.unusedVariables false
set_option maxRecDepth 20000
open Go.Lib (decodeL decodeN)
def inP (r : Int) : List An -> Bool
 | [] => false
 | s :: l => if r <= s.hi then decide (s.lo <= r) else inP r l
def srt : List An -> Bool
 | [] => true
 | s :: l => l.all (fun t => decide (s.hi < t.lo)) && srt l
def Ah6 (r : Int) : Bool := decide (r = 9 \/ r = 10 \/ r = 13 \/ (32 <= r /\ r <= 55295) \/ (57344 <= r /\ r <= 65533) \/ (65536 <= r /\ r <= 1114111))
def WF (r : Int) : Bool := decide ((65 <= r /\ r <= 90) \/ r = 95 \/ (97 <= r /\ r <= 122) \/ (192 <= r /\ r <= 214) \/ (216 <= r /\ r <= 246) \/ (248 <= r /\ r <= 767) \/ (880 <= r /\ r <= 893) \/ (895 <= r /\ r <= 8191) \/ (8204 <= r /\ r <= 8205) \/ (8304 <= r /\ r <= 8591) \/ (11264 <= r /\ r <= 12271) \/ (12289 <= r /\ r <= 55295) \/ (63744 <= r /\ r <= 64975) \/ (65008 <= r /\ r <= 65533) \/ (65536 <= r /\ r <= 983039))
def Ae0 (r : Int) : Bool := WF r || decide (r = 45 \/ r = 46 \/ (48 <= r /\ r <= 57) \/ r = 183 \/ (768 <= r /\ r <= 879) \/ (8255 <= r /\ r <= 8256))

set_option linter.unusedSimpArgs false
set_option linter.unusedVariables false
set_option maxRecDepth 20000
open Go.Lib (decodeL decodeN)
def okN (l : List By8) : Nat -> Nat -> Bool
 | 0, _ => true
 | n + 1, j => if j < l.length then !Aho (decodeL (l.drop j)) && (Ae0 (decodeL (l.drop j)).1 && ((!decide (j = 0) || WF (decodeL (l.drop j)).1) && okN l n (j + (decodeL (l.drop j)).2))) else true
def Acp (l : List By8) : Bool := !(decide (l = []) || decide (100 < l.length)) && okN l l.length 0

set_option linter.unusedSimpArgs false
set_option linter.unusedVariables false
set_option maxRecDepth 20000
theorem XK {ρ : Type} (N k0 : Nat) (p : Nat -> Bool) {b : (Int -> Option (Unit ⊕ ρ)) -> Int -> Option (Unit ⊕ ρ)} {r : ρ} (hN : N <= 1099511627776) (hk : k0 <= 1099511627776)
  (hb : ∀ rec (i : Nat), k0 <= i -> i < N -> b rec (i : Int) = if p i then rec ((i + 1 : Nat) : Int) else some (.inr r)) (he : ∀ rec (i : Nat), N <= i -> i <= N + k0 -> b rec (i : Int) = some (.inl ())) :
  iter b FUEL (k0 : Int) = some (if (List.range' k0 (N - k0)).all p then .inl () else .inr r) := by
 obtain ⟨o, e, rfl⟩ := AU (b := b) (fun j x => x = ((k0 + j : Nat) : Int) /\ (List.range' k0 j).all p = true) (fun o => o = if (List.range' k0 (N - k0)).all p then .inl () else .inr r) (N - k0) (x0 := (k0 : Int)) ⟨rfl, rfl⟩ (by
  rintro j _ rec hj ⟨rfl, hI⟩;rw [hb rec (k0 + j) (by omega) (by omega)]
  cases hp : p (k0 + j) with
  | true =>
   refine .inl ⟨_, by rw [if_pos rfl, Nat.add_assoc], rfl, ?_⟩;rw [List.range'_1_concat, List.all_append, hI];simp [hp]
  | false =>
   refine .inr ⟨_, by rw [if_neg (by simp)], ?_⟩;have : (List.range' k0 (N - k0)).all p = false := by
    rw [List.all_eq_false];exact ⟨k0 + j, by rw [List.mem_range'_1]; omega, by rw [hp]; simp⟩
   rw [this]; rfl) (by
  rintro _ rec ⟨rfl, hI⟩
  exact ⟨_, he rec _ (by omega) (by omega), by rw [hI]; rfl⟩) (n := FUEL) (by unfold FUEL; omega)
 exact e
theorem Uu {α : Type} (l : List α) (q : α -> Bool) (p : Nat -> Bool) (hp : ∀ i (h : i < l.length), p i = q l[i]) : (List.range' 0 (l.length - 0)).all p = l.all q := by
 rw [Bool.eq_iff_iff, List.all_eq_true, List.all_eq_true];constructor
 ·intro h x hx;obtain ⟨i, hi, rfl⟩ := List.getElem_of_mem hx;rw [<- hp i hi];exact h i (by rw [List.mem_range'_1]; omega)
 ·intro h i hi;rw [List.mem_range'_1] at hi;rw [hp i (by omega)];exact h _ (bm _)
theorem UI {ρ α : Type} (l : List α) (q : α -> Bool) {b : (Int -> Option (Unit ⊕ ρ)) -> Int -> Option (Unit ⊕ ρ)} {r : ρ} (hl : l.length <= 1099511627776)
  (hb : ∀ rec (i : Nat) (h : i < l.length), b rec (i : Int) = if q l[i] then rec ((i + 1 : Nat) : Int) else some (.inr r)) (he : ∀ rec, b rec (l.length : Int) = some (.inl ())) :
  iter b FUEL (0 : Int) = some (if l.all q then .inl () else .inr r) := by
 have h := XK (b := b) (r := r) l.length 0 (fun i => if h : i < l.length then q l[i] else true) hl (by omega) (fun rec i _ h => by rw [hb rec i h]; simp [h]) (fun rec i h1 h2 => by
  obtain rfl : i = l.length := by omega
  exact he rec)
 rw [show ((0 : Nat) : Int) = 0 from rfl] at h;rw [h, Uu l q _ fun i hi => by simp [hi]]
theorem ZQ {i : Nat} (h : i <= 1099511627776) : IntKind.wrap .i64 ((i : Int) + 1) = ((i + 1 : Nat) : Int) := by rw [w64 (by omega) (by omega)]; omega
def UQ (k : Int) : Bool := ((k == (2 : Int)) || (k == (4 : Int))) || (k == (5 : Int))
def Abg (p k : Int) : Bool := ((p == (1 : Int)) && UQ k) || ((p == (2 : Int)) && (UQ k || (k == (3 : Int))))
def RJ (n : Aa) : Bool := (n.URI == ([] : List By8)) && (n.Local == ([] : List By8))
def Afg (n : Ab) : Bool :=
 if n.Kind = 1 then (RJ n.Name && (n.Text == ([] : List By8))) && n.Attrs.isEmpty
 else if n.Kind = 2 then n.Text == ([] : List By8)
 else if n.Kind = 3 \/ n.Kind = 4 then (RJ n.Name && n.Attrs.isEmpty) && n.Kids.isEmpty
 else if n.Kind = 5 then ((n.Name.URI == ([] : List By8)) && n.Attrs.isEmpty) && n.Kids.isEmpty
 else false
def Ahl (n : Ab) : Bool := n.Kids.all (fun k => Abg n.Kind k.Kind) && Afg n
def Aip (p k : Int) : Bool := if p = 1 then UQ k else if p = 2 then decide ((2 : Int) <= k) && decide (k <= (5 : Int)) else false
def Aew (n : Ab) : Bool :=
 if n.Kind = 1 then (n.Attrs.isEmpty && RJ n.Name) && (n.Text == ([] : List By8))
 else if n.Kind = 2 then n.Text == ([] : List By8)
 else if n.Kind = 5 then n.Attrs.isEmpty && (n.Name.URI == ([] : List By8))
 else n.Attrs.isEmpty && RJ n.Name
def Aiw (n : Ab) : Bool := Aew n && n.Kids.all (fun k => Abg n.Kind k.Kind)

set_option linter.unusedSimpArgs false
set_option linter.unusedVariables false
set_option maxRecDepth 20000
open Go.Lib (decodeL decodeN)
theorem WD {p : By8 -> Bool} (h : (List.range 256).all (fun n => p (UInt8.ofNat n)) = true) (c : By8) : p c = true := by
 rw [List.all_eq_true] at h;have := h c.toNat (List.mem_range.2 c.toNat_lt);simpa using this
def Ah7 (c : By8) : By8 := if 65 <= c.toNat /\ c.toNat <= 90 then c + 32 else c
def okS (v : List By8) : Prop := ∀ c ∈ v, c.toNat < 128 /\ ¬ (65 <= c.toNat /\ c.toNat <= 90)

set_option linter.unusedSimpArgs false
set_option linter.unusedVariables false
set_option maxRecDepth 20000
def Aig (n : Ab) : Bool := n.Attrs.all (fun a => decide (a.Value.length <= 8192)) && (decide (n.Attrs.length <= 64) && decide (n.Text.length <= 8192))
def fz (s : List By8) : Bool := match EL s with
 | some (_, e) => e == (0 : Int)
 | none => false
def Abj : List By8 := [104, 116, 116, 112, 58, 47, 47, 119, 119, 119, 46, 119, 51, 46, 111, 114, 103, 47, 50, 48, 48, 48, 47, 120, 109, 108, 110, 115, 47]
def Uv (n : Aa) : Bool := ((Acp n.Local && decide (n.URI.length <= 100)) && fz n.URI) && !(n.URI == Abj)
def Ahi (a : Aj) : Bool := Uv a.Name && !((a.Name.URI == ([] : List By8)) && (a.Name.Local == ([120, 109, 108, 110, 115] : List By8)))
def Agm (l : List By8) : Bool := l.map Ah7 == ([120, 109, 108] : List By8)
def nmP (n : Ab) : Bool := ((!(n.Kind == (2 : Int)) || Uv n.Name) && n.Attrs.all Ahi) && (!(n.Kind == (5 : Int)) || (Acp n.Name.Local && !Agm n.Name.Local))
def chP (n : Ab) : Bool := n.Attrs.all (fun a => fz a.Value) && fz n.Text
def Ahg (a b : Aa) : Bool := (Op.bytesLess a.URI b.URI) || ((a.URI == b.URI) && (Op.bytesLess a.Local b.Local))
def Aie (l : List Aj) (i : Nat) : Bool := Ahg (l.getD (i - 1) default).Name (l.getD i default).Name
def orP (n : Ab) : Bool := (List.range' 1 (n.Attrs.length - 1)).all (Aie n.Attrs)

set_option linter.unusedSimpArgs false
set_option linter.unusedVariables false
set_option maxRecDepth 20000
def ZT (t : List By8) : Bool := (t == ([] : List By8)) || ((t.getLast?.getD 0 : By8) != 45)
def Abw (t : List By8) : Bool := match t with
 | [] => true
 | c :: _ => c != 32 && c != 9 && c != 10
def Aec (n : Ab) : Bool :=
 if n.Kind = 3 then !(n.Text == ([] : List By8))
 else if n.Kind = 4 then (!(Lib.contains n.Text [45, 45]) && !(Lib.contains n.Text [13])) && ZT n.Text
 else if n.Kind = 5 then (!(Lib.contains n.Text [63, 62]) && !(Lib.contains n.Text [13])) && Abw n.Text
 else true
def kAt (l : List Ab) (i : Nat) : Bool := !(((l.getD i default).Kind == (3 : Int)) && ((l.getD (i - 1) default).Kind == (3 : Int)))
def txP (n : Ab) : Bool := (List.range' 1 (n.Kids.length - 1)).all (kAt n.Kids) && Aec n
theorem Abp (c : By8) (m : Nat) (hm : m < 256) : ((c.toNat : Int) != (m : Int)) = (c != UInt8.ofNat m) := by
 have e : (c.toNat : Int) = (m : Int) ↔ c = UInt8.ofNat m := by
  constructor
  ·intro h;apply UInt8.toNat_inj.1;rw [UInt8.toNat_ofNat'];omega
  ·rintro rfl;rw [UInt8.toNat_ofNat'];omega
 rw [Bool.eq_iff_iff, bne_iff_ne, bne_iff_ne];exact not_congr e

set_option linter.unusedSimpArgs false
set_option linter.unusedVariables false
set_option maxRecDepth 20000
theorem TL : ∀ (n : Nat) (p : Ab), szN p < n -> szN p <= 1048576 -> iter BA n p = some (Dn p)
 | 0, p, h, _ => by omega
 | n + 1, p, h, hl => by
  have hk := Ff p;have hkl := EV p;have ih := fun q => TL n q;rw [BH];generalize iter BA n = rc at ih ⊢;unfold BA;simp only [letJ]
  obtain ⟨o, e, hR⟩ := AU (b := Cr p rc) (fun i s => s = (p :: DM (p.Kids.take i), (i : Int))) (fun o => o = p :: DM p.Kids) p.Kids.length (x0 := ([p], (0 : Int))) (by simp [DM]) (by
   rintro i _ rec hi rfl;left;have h1 := Jo (bm hi);have h2 := IS p.Kids i;have h3 := Gv p.Kids;have h4 := Lx p.Kids[i];refine ⟨_, ?_, rfl⟩;unfold Cr;dsimp only;rw [bf (by omega), bb, AE hi, ba, ih p.Kids[i] (by omega) (by omega), ba, w64 (by omega) (by omega), Cm (by simp only [bi]; omega) (by simp only [bi]; omega), ba, Np hi]
   simp) (by
   rintro _ rec rfl;refine ⟨_, ?_, rfl⟩;unfold Cr;dsimp only
   rw [bg (by omega), bc, List.take_length]) (n := FUEL) (by unfold FUEL; omega)
  rw [e, ba, hR, F3]
theorem Ac6 (d : Ab) (h : szN d <= 1048576) : C9 d = some (Dn d) := TL FUEL d (by unfold FUEL; omega) h
def ZY : Nat -> Ab -> Int -> Bool
 | 0, _, _ => false
 | n + 1, x, a => if x.Kind = 2 then decide ((32 : Int) < a) || x.Kids.any (fun k => ZY n k (a + 1)) else x.Kids.any (fun k => ZY n k a)
def Aiz (a b c d e f g : Bool) (r : Int) : Int := if a = false then 33 else if b = false then 31 else if c = false then 5 else if d = false then 24 else if e = false then 21 else if f = false then 34 else if g = false then 32 else if r ≠ 1 then 30 else 0
end Go.Proofs.YtmnbjcpikllknaaGreatDoor
