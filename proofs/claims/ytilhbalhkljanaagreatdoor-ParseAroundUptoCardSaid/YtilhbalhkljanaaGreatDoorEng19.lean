/- One rule an operation, in step with a JY function. No condition. -/
import Derived.Test.YtilhbalhkljanaaGreatDoorEng18
set_option linter.unusedSimpArgs false
set_option linter.unusedVariables false
namespace Go.Proofs.YtilhbalhkljanaaGreatDoor
section
variable {P : Program} {md : Nat → Nat} {w : Bool} {ops : Array Oper} {os : List Oper} {k : St → Prop} {n : Nat} {l : List (Nat × D)} {h : Heap} {d : Nat} {t ty : TypeId} {pos : String} {af : Array Edge} {x y z : Operand}
variable {β : Type} {G : β → Prop}
theorem D2 {op : Op} (he : Bq P N0 (md d) op (opL n l) h fun v h' => Aw P md w ops os ⟨Ak n ((d, v) :: l), h'⟩ k) : Aw P md w ops (⟨some d, op, ty, pos, af, none⟩ :: os) ⟨Ak n l, h⟩ k := NK (by
 simp only [EX, B5, DP, Rv, HV]
 exact he)
theorem WT {op : Op} (he : Bq P N0 0 op (opL n l) h fun v h' => Aw P md w ops os ⟨Ak n l, h'⟩ k) : Aw P md w ops (⟨none, op, ty, pos, af, none⟩ :: os) ⟨Ak n l, h⟩ k := NK (by
 simp only [EX, B5, DP, HV]
 exact he)
theorem S_m {v : D} (hx : opL n l x = v) (hk : Aw P md w ops os ⟨Ak n ((d, v) :: l), h⟩ k) : Aw P md w ops (⟨some d, .move x, ty, pos, af, none⟩ :: os) ⟨Ak n l, h⟩ k := D2 (by subst hx; exact hk)
theorem S_a {v : D} (hx : opL n l x = v) (hk : Aw P md w ops os ⟨Ak n ((d, v) :: l), h⟩ k) : Aw P md w ops (⟨some d, .assign x, ty, pos, af, none⟩ :: os) ⟨Ak n l, h⟩ k := D2 (by subst hx; exact hk)
theorem Zd {a b : Operand} {v : D} {c : Bool} (hc : opL n l x = .bool c) (hb : c = true) (ha : opL n l a = v) (hk : Aw P md w ops os ⟨Ak n ((d, v) :: l), h⟩ k) : Aw P md w ops (⟨some d, .pick x a b, ty, pos, af, none⟩ :: os) ⟨Ak n l, h⟩ k :=
 D2 (by subst hb ha; simp only [Bq, hc, if_true]; exact hk)
theorem YD {a b : Operand} {v : D} {c : Bool} (hc : opL n l x = .bool c) (hb : c = false) (ha : opL n l b = v) (hk : Aw P md w ops os ⟨Ak n ((d, v) :: l), h⟩ k) : Aw P md w ops (⟨some d, .pick x a b, ty, pos, af, none⟩ :: os) ⟨Ak n l, h⟩ k :=
 D2 (by subst hb ha; simp only [Bq, hc]; exact hk)
theorem Ef {op : BinOp} {u : TypeId} {dx dy v : D} (hx : opL n l x = dx) (hy : opL n l y = dy) (hb : BC P h op t dx dy = some v) (hk : Aw P md w ops os ⟨Ak n ((d, v) :: l), h⟩ k) :
  Aw P md w ops (⟨some d, .binOp op t x y u, ty, pos, af, none⟩ :: os) ⟨Ak n l, h⟩ k := D2 (by simp only [Bq, hx, hy, WM hb, Br]; exact hk)
theorem eR {op : UnOp} {dx v : D} (hx : opL n l x = dx) (hb : unD op dx = some v) (hk : Aw P md w ops os ⟨Ak n ((d, v) :: l), h⟩ k) :
  Aw P md w ops (⟨some d, .unOp op t x, ty, pos, af, none⟩ :: os) ⟨Ak n l, h⟩ k := D2 (by simp only [Bq, hx, hb, Br]; exact hk)
theorem Kf {u : TypeId} {dx v : D} (hx : opL n l x = dx) (hb : Hr P h t u dx = some v) (hk : Aw P md w ops os ⟨Ak n ((d, v) :: l), h⟩ k) :
  Aw P md w ops (⟨some d, .convert t u x, ty, pos, af, none⟩ :: os) ⟨Ak n l, h⟩ k := D2 (by
 simp only [Bq, hx]
 split
 ·rename_i el s hs
  rw [Mg] at hb
  split at hb
  ·rename_i hc
   have h1 := D8 hc.1
   simp [slD, h1] at hs
  ·simp at hb
 ·rename_i el k' id' off' n' hs
  exfalso
  simp only [Hr] at hb
  split at hb
  ·split at hb
   ·rename_i hc
    have h1 := D8 hc.2.1
    simp [slD, h1] at hs
   ·simp at hb
  ·simp at hb
 ·rw [hb, Br]; exact hk)
theorem JB {u : TypeId} {a b : List UInt8} {f : List UInt8 → Option β} (hx : opL n l x = .str a) (hy : opL n l y = .str b) (hF : Ap ((cat a b).bind f) G)
  (hk : Ap (f (a ++ b)) G → Aw P md w ops os ⟨Ak n ((d, .str (a ++ b)) :: l), h⟩ k) : Aw P md w ops (⟨some d, .binOp .add t x y u, ty, pos, af, none⟩ :: os) ⟨Ak n l, h⟩ k :=
 D2 (by
  obtain ⟨v, hv, hF⟩ := BT hF
  unfold cat at hv
  split at hv
  ·rename_i hc
   injection hv with hv; subst hv
   simp only [Bq, hx, hy, OV, Pg, LI, TU, if_pos hc, Br]; exact hk hF
  ·simp at hv)
def nzI (b : Int) : Option Int := if b = 0 then none else some b
theorem Tu {K K' : IntKind} {a b : Int} (hb : decide (b < 0) = false) : BC P h .shr t (.int K a) (.int K' b) = some (.int K (a.fdiv (2 ^ (min b.toNat K.bits)))) := by
 have : ¬ b < 0 := by simpa using hb
 rw [WV, if_neg this]
theorem dG {a b : Bool} (hb : boD P t = true) : BC P h .neq t (.bool a) (.bool b) = some (.bool (!(a == b))) := by rw [Mc, if_pos hb]
theorem aq {a b : List UInt8} : BC P h .eql t (.str a) (.str b) = some (.bool (a == b)) := by rw [LI, Tv]
theorem bk {a b : List UInt8} : BC P h .neq t (.str a) (.str b) = some (.bool (!(a == b))) := by rw [LI, TJ]
theorem ZS {a b : List UInt8} : BC P h .lss t (.str a) (.str b) = some (.bool (Op.bytesLess a b)) := by rw [LI, Uj]
theorem aC {a b : List UInt8} : BC P h .gtr t (.str a) (.str b) = some (.bool (!(Op.bytesLess a b || a == b))) := by rw [LI, Uc]
theorem ZN {xs ys : List D} {fs : List (Nat × TypeId)} {b : Bool} (h1 : P.eqGuardType P.depth t = false) (h2 : sfD P t = some fs) (h3 : C4 (eqD P h 9999) P xs ys fs = some b) : BC P h .eql t (.agg xs) (.agg ys) = some (.bool b) := by
 rw [Nl, if_pos h1, h2, Option.bind_some, h3]; rfl
theorem Xe {xs ys : List D} {fs : List (Nat × TypeId)} {b : Bool} (h1 : P.eqGuardType P.depth t = false) (h2 : sfD P t = some fs) (h3 : C4 (eqD P h 9999) P xs ys fs = some b) : BC P h .neq t (.agg xs) (.agg ys) = some (.bool !b) := by
 rw [N1, if_pos h1, h2, Option.bind_some, h3]; rfl
theorem WG {s : TypeId} {K K' : IntKind} {a : Int} (hk : kiD P t = some K') (hs : (P.underlying s).isSome = true) : Hr P h s t (.int K a) = some (.int K' (K'.wrap a)) := by
 rw [Lt, hk]; simp only [hs, if_true]
theorem eb {s : TypeId} {K : IntKind} {a : Int} (hk : kiD P t = none) (hf : faD P t = none) (ht : stD P t = true) (hs : (P.underlying s).isSome = true) : Hr P h s t (.int K a) = some (.str (Utf8.encode a).data.toList) := by
 rw [Lt, hk, hf]; simp only [hs, ht, and_self, if_true]
def AH (b : UInt8) : List D := [.int .u8 b.toNat]
theorem dC {s e : TypeId} {r : Nat} {a : List UInt8} (hs : slD P s = some e) (he : kiD P e = some .u8) (ht : stD P t = true) : Hr P h s t (.sl 1 (a.map AH) r) = some (.str a) := by
 rw [M0, hs]
 simp only [he, ht, and_self, if_true]
 have := Qx a
 have e1 : (a.map fun b => [Gf b]) = a.map AH := rfl
 rw [← e1, this]; rfl
theorem GF {α : Type} {q r : Nat} {c : α → List D} {L : List α} {e : TypeId} (hx : opL n l x = .sl q (L.map c) r) (ht : slD P t = some e) (hk : Aw P md w ops os ⟨Ak n ((d, .int .i64 (L.length : Int)) :: l), h⟩ k) :
  Aw P md w ops (⟨some d, .call ⟨.builtin .len, #[x], #[t]⟩, ty, pos, af, none⟩ :: os) ⟨Ak n l, h⟩ k := D2 (by
 simp only [Bq, Ep, List.map_cons, List.map_nil, hx, Jh, ht, Option.isSome_some, if_true, Br, List.length_map]; exact hk)
theorem bx {e : TypeId} (hx : opL n l x = .snil) (ht : slD P t = some e) (hk : Aw P md w ops os ⟨Ak n ((d, .int .i64 0) :: l), h⟩ k) :
  Aw P md w ops (⟨some d, .call ⟨.builtin .len, #[x], #[t]⟩, ty, pos, af, none⟩ :: os) ⟨Ak n l, h⟩ k := D2 (by
 simp only [Bq, Ep, List.map_cons, List.map_nil, hx, Jh, ht, Option.isSome_some, if_true, Br]; exact hk)
theorem aM {a : List UInt8} (hx : opL n l x = .str a) (ht : stD P t = true) (hk : Aw P md w ops os ⟨Ak n ((d, .int .i64 (a.length : Int)) :: l), h⟩ k) :
  Aw P md w ops (⟨some d, .call ⟨.builtin .len, #[x], #[t]⟩, ty, pos, af, none⟩ :: os) ⟨Ak n l, h⟩ k := D2 (by
 simp only [Bq, Ep, List.map_cons, List.map_nil, hx, Jh, ht, if_true, Br]; exact hk)
theorem ZO {K K' : IntKind} {a b : Int} {ts : Array TypeId} (hx : opL n l x = .int K a) (hy : opL n l y = .int K' b) (hk : Aw P md w ops os ⟨Ak n ((d, .int K (if b < a then b else a)) :: l), h⟩ k) :
  Aw P md w ops (⟨some d, .call ⟨.builtin .min, #[x, y], ts⟩, ty, pos, af, none⟩ :: os) ⟨Ak n l, h⟩ k := D2 (by
 simp only [Bq, List.map_cons, List.map_nil, hx, hy, XW]; exact hk)
theorem cX {ds : List D} {i : Nat} {v : D} (hx : opL n l x = .tup ds) (hv : Tt i (.tup ds) = some v) (hk : Aw P md w ops os ⟨Ak n ((d, v) :: l), h⟩ k) :
  Aw P md w ops (⟨some d, .extract x i, ty, pos, af, none⟩ :: os) ⟨Ak n l, h⟩ k := D2 (by simp only [Bq, hx, hv, Br]; exact hk)
theorem S9 {v : D} (hx : opL n l x = v) (hv : Wy v = some v) (hk : Aw P md w ops os ⟨Ak n ((d, v) :: l), h⟩ k) :
  Aw P md w ops (⟨some d, .nilCheck x, ty, pos, af, none⟩ :: os) ⟨Ak n l, h⟩ k := D2 (by simp only [Bq, hx, hv, Br]; exact hk)
theorem C9 {cs : List D} {f o : Nat} {ft : TypeId} {m : Nat} (hx : opL n l x = .iptr cs) (hf : fdD P t f = some (o, ft)) (hs : szD P ft = some (m + 1)) (ho : Nat.ble o cs.length = true) (hk : Aw P md w ops os ⟨Ak n ((d, .iptr (cs.drop o)) :: l), h⟩ k) :
  Aw P md w ops (⟨some d, .fieldAddr t x f, ty, pos, af, none⟩ :: os) ⟨Ak n l, h⟩ k := D2 (by
 have ho' : o ≤ cs.length := Nat.le_of_ble_eq_true ho
 simp only [Bq, hx, Ty, hf, hs, PJ, ho', if_true]; exact ⟨_, by simp, hk⟩)
theorem DA {i off : Nat} {f o : Nat} {ft : TypeId} {m : Nat} (hx : opL n l x = .ptr i off) (hf : fdD P t f = some (o, ft)) (hs : szD P ft = some (m + 1)) (hk : Aw P md w ops os ⟨Ak n ((d, .ptr i (off + o)) :: l), h⟩ k) :
  Aw P md w ops (⟨some d, .fieldAddr t x f, ty, pos, af, none⟩ :: os) ⟨Ak n l, h⟩ k := D2 (by
 simp only [Bq, hx, TD, hf, hs, PJ]; exact ⟨_, by simp, hk⟩)
theorem B6 {cs ds : List D} {v : D} {m : Nat} (ha : agD P t = some false) (hs : szD P t = some m) (he : cs = v :: ds) : DH P t cs = some v := by
 subst he; simp only [DH, ha, hs]
theorem Bm {cs vs : List D} {m : Nat} (ha : agD P t = some true) (hs : szD P t = some m) (hl : Nat.ble m cs.length = true) (he : cs.take m = vs) : DH P t cs = some (.agg vs) := by
 simp only [DH, ha, hs, if_pos (Nat.le_of_ble_eq_true hl), he]
theorem Cs {cs : List D} {v : D} (hx : opL n l x = .iptr cs) (hp : DH P t cs = some v) (hk : Aw P md w ops os ⟨Ak n ((d, v) :: l), h⟩ k) :
  Aw P md w ops (⟨some d, .load t x, ty, pos, af, none⟩ :: os) ⟨Ak n l, h⟩ k := D2 (by simp only [Bq, hx, Y8, hp, Br]; exact hk)
theorem Ds {O : List (Nat × AObj)} {i off j : Nat} {cs : List D} {v : D} (ok : OK h O) (hm : md d = 0) (hx : opL n l x = .ptr i off) (hj : O[j]? = some (i, .cells cs)) (hi : i ≠ 0) (hp : DH P t (cs.drop off) = some v)
  (hk : Aw P md w ops os ⟨Ak n ((d, v) :: l), Hp h O⟩ k) : Aw P md w ops (⟨some d, .load t x, ty, pos, af, none⟩ :: os) ⟨Ak n l, Hp h O⟩ k := D2 (by
 simp only [Bq, hx, hm, Tm, HF, DU j ok hj hi, hp, Br]; exact hk)
theorem Ck {O : List (Nat × AObj)} {i off j : Nat} {cs cs' : List D} {v : D} (ok : OK h O) (hx : opL n l x = .ptr i off) (hy : opL n l y = v) (hj : O[j]? = some (i, .cells cs)) (hi : i ≠ 0) (h1 : v.lay = true) (h2 : szD P t = some v.cells.length)
  (h3 : Nat.ble (off + v.cells.length) cs.length = true) (h4 : Et cs off v.cells = cs') (hk : OK h (O.set j (i, .cells cs')) → Aw P md w ops os ⟨Ak n l, Hp h (O.set j (i, .cells cs'))⟩ k) :
  Aw P md w ops (⟨none, .store t x y, ty, pos, af, none⟩ :: os) ⟨Ak n l, Hp h O⟩ k := WT (by
 obtain ⟨e1, e2⟩ := Jk (y := .cells cs') j ok hj hi
 subst hy h4
 simp only [Bq, hx, Ky, DU j ok hj hi]
 exact ⟨h1, h2, Nat.le_of_ble_eq_true h3, by rw [e1]; exact hk e2⟩)
theorem Fz {α : Type} {q r : Nat} {c : α → List D} {L : List α} {K : IntKind} {i : Int} {e : TypeId} {f : α → Option β} (hx : opL n l x = .sl q (L.map c) r) (hy : opL n l y = .int K i) (hs : slD P t = some e) (hq : szD P e = some q)
  (hF : Ap ((idx L i).bind f) G) (hk : ∀ a, idx L i = some a → Ap (f a) G → Aw P md w ops os ⟨Ak n ((d, .iptr (c a)) :: l), h⟩ k) : Aw P md w ops (⟨some d, .indexAddr t x y, ty, pos, af, none⟩ :: os) ⟨Ak n l, h⟩ k := D2 (by
 obtain ⟨a, ha, hF⟩ := BT hF
 have ha' := ha
 unfold idx at ha'
 split at ha'
 ·rename_i h0
  obtain ⟨hlt, he⟩ := List.getElem?_eq_some_iff.1 ha'
  have hlt' : i < (L.length : Int) := by omega
  have hg : (L.map c).getD i.toNat [] = c a := by simp [List.getD, ha']
  simp only [Bq, hx, hy, N4, hs, Option.bind_some, hq, List.length_map, h0, hlt', true_and, if_true, Br, hg]
  exact hk a ha hF
 ·simp at ha')
theorem XC {K : IntKind} {i : Int} {a : List UInt8} {f : UInt8 → Option β} (hx : opL n l x = .str a) (hy : opL n l y = .int K i) (hs : stD P t = true)
  (hF : Ap ((idx a i).bind f) G) (hk : ∀ b, idx a i = some b → Ap (f b) G → Aw P md w ops os ⟨Ak n ((d, .int .u8 (b.toNat : Int)) :: l), h⟩ k) : Aw P md w ops (⟨some d, .index t x y, ty, pos, af, none⟩ :: os) ⟨Ak n l, h⟩ k := D2 (by
 obtain ⟨b, hb, hF⟩ := BT hF
 have ha' := hb
 unfold idx at ha'
 split at ha'
 ·rename_i h0
  obtain ⟨hlt, he⟩ := List.getElem?_eq_some_iff.1 ha'
  have hlt' : i < (a.length : Int) := by omega
  have hg : a.getD i.toNat 0 = b := by simp [List.getD, ha']
  simp only [Bq, hx, hy, O6, hs, h0, hlt', true_and, if_true, Br, hg]
  exact hk b hb hF
 ·simp at ha')
theorem N7 {α : Type} {L : List α} {i j : Int} {a : List α} (h : slc L i j = some a) : (0 ≤ i ∧ i ≤ j ∧ j ≤ (L.length : Int)) ∧ a = (L.drop i.toNat).take (j.toNat - i.toNat) := by
 unfold slc at h
 split at h
 ·rename_i hc; injection h with h; exact ⟨hc, h.symm⟩
 ·simp at h
theorem RX {a : List UInt8} {lo hi : Option Operand} {i j : Int} {f : List UInt8 → Option β} (hx : opL n l x = .str a) (hs : stD P t = true) (h1 : Cw (lo.map (opL n l)) 0 = some i) (h2 : Cw (hi.map (opL n l)) a.length = some j)
  (hF : Ap ((slc a i j).bind f) G) (hk : ∀ b, slc a i j = some b → Ap (f b) G → Aw P md w ops os ⟨Ak n ((d, .str b) :: l), h⟩ k) : Aw P md w ops (⟨some d, .slice t x lo hi none, ty, pos, af, none⟩ :: os) ⟨Ak n l, h⟩ k := D2 (by
 obtain ⟨b, hb, hF⟩ := BT hF
 obtain ⟨hc, he⟩ := N7 hb
 simp only [Bq, hx, KF, hs, h1, h2, if_true, if_pos hc, Br, ← he]
 exact hk b hb hF)
theorem Gy {α : Type} {q r : Nat} {c : α → List D} {L : List α} {e : TypeId} {lo hi : Option Operand} {i j : Int} {f : List α → Option β} (hx : opL n l x = .sl q (L.map c) r) (hs : slD P t = some e) (hq : szD P e = some q)
  (h1 : Cw (lo.map (opL n l)) 0 = some i) (h2 : Cw (hi.map (opL n l)) (L.map c).length = some j)
  (hF : Ap ((slc L i j).bind f) G) (hk : ∀ b, slc L i j = some b → Ap (f b) G → Aw P md w ops os ⟨Ak n ((d, .sl q (b.map c) 0) :: l), h⟩ k) : Aw P md w ops (⟨some d, .slice t x lo hi none, ty, pos, af, none⟩ :: os) ⟨Ak n l, h⟩ k := D2 (by
 obtain ⟨b, hb, hF⟩ := BT hF
 obtain ⟨hc, he⟩ := N7 hb
 have hc' : 0 ≤ i ∧ i ≤ j ∧ j ≤ ((L.map c).length : Int) := by simpa using hc
 have e1 : ((L.map c).drop i.toNat).take (j.toNat - i.toNat) = b.map c := by rw [he, List.map_take, List.map_drop]
 simp only [Bq, hx, L2, hs, Option.bind_some, hq, h1, h2, if_true, if_pos hc', Br, e1]
 exact hk b hb hF)
theorem I5 {a : Nat} : Cw ((none : Option Operand).map (opL n l)) a = some (a : Int) := rfl
theorem ED {a : Nat} {K : IntKind} {i : Int} (hy : opL n l y = .int K i) : Cw ((some y).map (opL n l)) a = some i := by
 simp only [Option.map_some, hy]; rfl
theorem HM {α : Type} {c : α → List D} {L : List α} : Cw ((none : Option Operand).map (opL n l)) (L.map c).length = some (L.length : Int) := by
 simp [Cw]
theorem XU {O : List (Nat × AObj)} {v : D} {cs : List D} (ok : OK h O) (hm : md d = 1) (hx : opL n l x = v) (h1 : v.lay = true) (h2 : v.cells = cs)
  (hk : ∀ i, i ≠ 0 → OK h ((i, .cells cs) :: O) → Aw P md w ops os ⟨Ak n ((d, .ptr i 0) :: l), Hp h ((i, .cells cs) :: O)⟩ k) : Aw P md w ops (⟨some d, .box t x, ty, pos, af, none⟩ :: os) ⟨Ak n l, Hp h O⟩ k := D2 (by
 subst hx h2
 simp only [Bq, hm, Qk]
 refine ⟨h1, fun i hf hi => ?_⟩
 obtain ⟨e1, e2⟩ := Kp (x := .cells (opL n l x).cells) ok hf hi
 rw [e1]; exact hk i hi e2)
theorem FC {v : D} {cs : List D} (hm : md d = 0) (hx : opL n l x = v) (h1 : v.lay = true) (h2 : v.cells = cs)
  (hk : Aw P md w ops os ⟨Ak n ((d, .iptr cs) :: l), h⟩ k) : Aw P md w ops (⟨some d, .box t x, ty, pos, af, none⟩ :: os) ⟨Ak n l, h⟩ k := D2 (by
 subst hx h2
 simp only [Bq, hm, TV]
 exact ⟨h1, hk⟩)
theorem C8 {O : List (Nat × AObj)} {cs : List D} (ok : OK h O) (hm : md d = 1) (hz : zcD P t = some cs)
  (hk : ∀ i, i ≠ 0 → OK h ((i, .cells cs) :: O) → Aw P md w ops os ⟨Ak n ((d, .ptr i 0) :: l), Hp h ((i, .cells cs) :: O)⟩ k) : Aw P md w ops (⟨some d, .alloc t, ty, pos, af, none⟩ :: os) ⟨Ak n l, Hp h O⟩ k := D2 (by
 simp only [Bq, hm, hz, Br, Qk]
 intro i hf hi
 obtain ⟨e1, e2⟩ := Kp (x := .cells cs) ok hf hi
 rw [e1]; exact hk i hi e2)
theorem CS {ps : Array (Nat × Operand)} {v : D} (hb : Ku P t (ps.toList.map fun p => (p.1, opL n l p.2)) = some v) (hk : Aw P md w ops os ⟨Ak n ((d, v) :: l), h⟩ k) : Aw P md w ops (⟨some d, .build t ps, ty, pos, af, none⟩ :: os) ⟨Ak n l, h⟩ k := D2 (by
 simp only [Bq, hb, Br]; exact hk)
theorem Ek {z cs : List D} {pl : List (Nat × Nat)} {parts : List (Nat × D)} (hz : zcD P t = some z) (hp : plD P t = some pl) (hf : Fl (fun i => pl[i]?) z parts = some cs) : Ku P t parts = some (.agg cs) := by
 simp only [Ku, hz, hp, hf]; rfl
theorem Fk {ps : Array (Nat × Operand)} {m q B : Nat} {zs cs : List D} {es : List (List D)} (hm : md d = 0) (he : elD P t = some (q, B, zs)) (hn : Nat.ble (m * q) 16777216 = true)
  (hf : Fl (fun i => some (i * q, q)) (List.replicate m zs).flatten (ps.toList.map fun p => (p.1, opL n l p.2)) = some cs) (hc : CO q m cs = es)
  (hk : Aw P md w ops os ⟨Ak n ((d, .sl q es 0) :: l), h⟩ k) : Aw P md w ops (⟨some d, .buildSlice t m ps, ty, pos, af, none⟩ :: os) ⟨Ak n l, h⟩ k := D2 (by
 subst hc
 simp only [Bq, Mh, he, hm, hf, Rk]
 exact ⟨Nat.le_of_ble_eq_true hn, hk⟩)
theorem dg {O : List (Nat × AObj)} {α : Type} {q r r2 j B : Nat} {zs : List D} {c : α → List D} {L M : List α} {u : TypeId} {f : List α → Option β} (ok : OK h O) (hm : md d = 2) (hx : opL n l x = .sl q (L.map c) r) (hy : opL n l y = .sl q (M.map c) r2)
  (hj : O[j]? = some (r, .room)) (hr : r ≠ 0) (he : elD P t = some (q, B, zs)) (hu : DM P u = true) (hF : Ap ((app B L M).bind f) G)
  (hk : ∀ r', r' ≠ 0 → OK h (O.set j (r', .room)) → Ap (f (L ++ M)) G → Aw P md w ops os ⟨Ak n ((d, .sl q ((L ++ M).map c) r') :: l), Hp h (O.set j (r', .room))⟩ k) :
  Aw P md w ops (⟨some d, .call ⟨.builtin .append, #[x, y], #[t, u]⟩, ty, pos, af, none⟩ :: os) ⟨Ak n l, Hp h O⟩ k := D2 (by
 obtain ⟨v, hv, hF⟩ := BT hF
 unfold app at hv
 split at hv
 ·rename_i hc
  injection hv with hv; subst hv
  simp only [Bq, Ep, List.map_cons, List.map_nil, hx, hy, hm, Fu, he, KZ, if_true, hu, true_and, List.length_map, DU j ok hj hr, NS]
  refine ⟨hc.1, hc.2, by decide, fun r' hf hr' => ?_⟩
  obtain ⟨e1, e2⟩ := Kz j ok hj hr
  rw [e1]
  have hf' : Hp h (O.set j (0, .room)) r' = none := by
   rw [← e1]
   by_cases e : r' = r
   ·subst e; exact Heap.upd_same ..
   ·rw [Heap.upd_ne _ _ e]; exact hf
  obtain ⟨hlt, _⟩ := List.getElem?_eq_some_iff.1 hj
  obtain ⟨e3, e4⟩ := JP (x := .room) j e2 (by simp [hlt]) hr' hf'
  rw [e3, List.set_set] at *
  rw [← List.map_append]
  exact hk r' hr' e4 hF
 ·simp at hv)
theorem CallsA.arg {f : FuncId} {ds0 ds : List D} {h : Heap} {R : D → Heap → Prop} (hw : WdC ds0 ds) (c : CallsA P f ds h R) : CallsA P f ds0 h R :=
 c.imp (fun c => ⟨c.1, fun K w vs H hl hv => c.2 K w vs H (hl.trans hw.l) fun i => (hw.c i).rel (hv i)⟩) fun c K w vs H hl hv => c K w vs H (hl.trans hw.l) fun i => (hw.c i).rel (hv i)
theorem CallsA.ret {f : FuncId} {ds : List D} {h : Heap} {R : D → Heap → Prop} (c : CallsA P f ds h fun d h' => ∃ d2 h2, Wd d d2 ∧ WH h' h2 ∧ R d2 h2) : CallsA P f ds h R :=
 c.imp (fun c => ⟨c.1, fun K w vs H hl hv => (c.2 K w vs H hl hv).mono fun e w' ⟨v, d, K', h', a, b, cc, dd, d2, h2, w1, w2, r⟩ => ⟨v, d2, K', h2, a, b, cc.weaken w2, w1.rel dd, r⟩⟩)
  fun c K w vs H hl hv => let ⟨v, w', d, K', h', a, b, cc, dd, d2, h2, w1, w2, r⟩ := c K w vs H hl hv; ⟨v, w', d2, K', h2, a, b, cc.weaken w2, w1.rel dd, r⟩
theorem IL {g : FuncId} {args : Array Operand} {ts : Array TypeId} {ds : List D} (hc : CallsA P g ds h fun v h' => Aw P md w ops os ⟨Ak n ((d, v) :: l), h'⟩ k) (hw : WdC (args.toList.map (opL n l)) ds) :
  Aw P md w ops (⟨some d, .call ⟨.value (.func g), args, ts⟩, ty, pos, af, none⟩ :: os) ⟨Ak n l, h⟩ k := D2 (by
 have := hc.arg hw
 simpa only [Bq, opL, List.nil_append, List.append_nil] using this)
theorem OK.wh {O : List (Nat × AObj)} (ok : OK h O) : WH (Hp h O) h := by
 have : ∀ O : List (Nat × AObj), WO O [] := fun O => by induction O with | nil => exact .nil | cons p O ih => exact .drop ih
 exact ((this O).spec ok).2.2
inductive RV (P : Program) (n : Nat) (l : List (Nat × D)) (h : Heap) : List ResultVar → List D → Prop
 | nil : RV P n l h [] []
 | tmp {t : Nat} {v : D} {rs : List ResultVar} {vs : List D} (hx : opL n l (.tmp t) = v) (r : RV P n l h rs vs) : RV P n l h (.tmp t :: rs) (v :: vs)
 | cell {a : Nat} {t : TypeId} {p v : D} {rs : List ResultVar} {vs : List D} (hx : opL n l (.tmp a) = p) (hl : I0 P h t p = some v) (r : RV P n l h rs vs) : RV P n l h (.cell a t :: rs) (v :: vs)
theorem RV.spec : ∀ {rs : List ResultVar} {vs : List D}, RV P n l h rs vs → rs.mapM (Q6 P ⟨Ak n l, h⟩) = some vs
 | _, _, .nil => rfl
 | _, _, .tmp (t := t) hx r => by
  have : (Ak n l).getD t .any = opL n l (.tmp t) := congrFun (HV n l) (.tmp t)
  simp only [List.mapM_cons, Q6, this, hx, r.spec]; rfl
 | _, _, .cell (a := a) hx hl r => by
  have : (Ak n l).getD a .any = opL n l (.tmp a) := congrFun (HV n l) (.tmp a)
  simp only [List.mapM_cons, Q6, this, hx, hl, r.spec]; rfl
theorem Ga {O : List (Nat × AObj)} {i off j : Nat} {cs : List D} {v : D} (ok : OK h O) (hj : O[j]? = some (i, .cells cs)) (hi : i ≠ 0) (hp : DH P t (cs.drop off) = some v) : I0 P (Hp h O) t (.ptr i off) = some v := by
 rw [HF, DU j ok hj hi]; exact hp
theorem Fs {fn : Func} {rs : List ResultVar} {vs : List D} {R : D → Heap → Prop} (hr : fn.results.toList = rs) (hv : RV P n l h rs vs) (hR : R (RE vs) h) : Wi P fn R .ret ⟨Ak n l, h⟩ := by
 show Ap (fn.results.toList.mapM (Q6 P ⟨Ak n l, h⟩)) fun l => R (RE l) h
 rw [hr, hv.spec, Br]; exact hR
theorem Is {fn : Func} {rs : List ResultVar} {vs : List D} {R : D → Heap → Prop} (hr : fn.results.toList = rs) (hv : RV P n l h rs vs) (hR : R (RE vs) h) : Wi P fn R .normal ⟨Ak n l, h⟩ := Fs hr hv hR
def PU : Nat → List D → List (Nat × D)
 | _, [] => []
 | i, d :: ds => (i, d) :: PU (i + 1) ds
theorem Qp : ∀ (ds : List D) (i t : Nat), EI (PU i ds) t = if i ≤ t then ds.getD (t - i) .any else .any
 | [], i, t => by simp [PU, EI]
 | d :: ds, i, t => by
  show (match Nat.beq i t with | true => d | false => EI (PU (i + 1) ds) t) = _
  cases hb : Nat.beq i t with
  | true => rw [Nat.beq_eq] at hb; subst hb; simp
  | false =>
   have hne : i ≠ t := fun e => by rw [e, Nat.beq_refl] at hb; simp at hb
   simp only [Qp ds (i + 1) t]
   by_cases h1 : i ≤ t
   ·have e : t - i = (t - (i + 1)) + 1 := by omega
    rw [if_pos h1, if_pos om, e]; simp
   ·rw [if_neg h1, if_neg om]
theorem WA (ds : List D) (m : Nat) : ds ++ List.replicate m .any = Ak (ds.length + m) (PU 0 ds) := by
 refine List.ext_getElem? fun j => ?_
 by_cases hj : j < ds.length + m
 ·simp only [Ak, List.getElem?_map, List.getElem?_range hj, Option.map_some, Qp]
  by_cases h1 : j < ds.length
  ·rw [List.getElem?_append_left h1]; simp [List.getD, h1]
  ·rw [List.getElem?_append_right om, List.getElem?_replicate, if_pos om]
   simp [List.getD, h1]
 ·rw [List.getElem?_eq_none (by simp; omega), List.getElem?_eq_none (by simp [Ak]; omega)]
theorem B2 {f : FuncId} {fn : Func} {c : Code} {args : List D} {h : Heap} {R : D → Heap → Prop} {N : Nat} (hf : P.funcs[f]? = some fn) (hb : fn.body = some c) (he : Cj P f = true) (hn : fn.ntmps = N) (ha : args.length + (N - args.length) = N)
  (hw : OK h [] → WP P c (Wi P fn R) ⟨Ak N (PU 0 args), Hp h []⟩) : CallsA P f args h R := by
 refine L9 hf hb he ?_
 rw [hn, WA, ha]; exact hw trivial
def fT (n : Int) : List D := [.int .i8 n]
def fy (n : Int) : List D := [.int .i16 n]
def fz (n : Int) : List D := [.int .i32 n]
def W9 (n : Int) : List D := [.int .i64 n]
def fo (n : Int) : List D := [.int .u16 n]
def fu (n : Int) : List D := [.int .u32 n]
def fB (n : Int) : List D := [.int .u64 n]
def en (b : Bool) : List D := [.bool b]
def IX (x : List UInt8) : List D := [.str x]
def fq (n : Nat) : List D := [.float .f64 n]
def eH (n : Nat × Nat) : List D := [.cplx .f64 n.1 n.2]
def fE {α : Type} (q : Nat) (c : α → List D) (l : List α) : List D := [.sl q (l.map c) 0]
def fK (k : IntKind) (a b : Int) : Int := k.wrap ((BitVec.ofInt k.bits a &&& BitVec.ofInt k.bits b).toNat : Int)
def ior (k : IntKind) (a b : Int) : Int := k.wrap ((BitVec.ofInt k.bits a ||| BitVec.ofInt k.bits b).toNat : Int)
def fO (k : IntKind) (a b : Int) : Int := k.wrap ((BitVec.ofInt k.bits a ^^^ BitVec.ofInt k.bits b).toNat : Int)
def dX (k : IntKind) (a b : Int) : Int := k.wrap ((BitVec.ofInt k.bits a &&& ~~~(BitVec.ofInt k.bits b)).toNat : Int)
def fU (k : IntKind) (a b : Int) : Int := k.wrap (a * 2 ^ (min b.toNat k.bits))
def DF (k : IntKind) (a b : Int) : Int := a.fdiv (2 ^ (min b.toNat k.bits))
def ngI (b : Int) : Option Int := if b < 0 then none else some b
theorem eX {K : IntKind} {a b : Int} : BC P h .or t (.int K a) (.int K b) = some (.int K (ior K a b)) := ZQ ..
theorem eD {dst : Option Nat} {op : Op} {s : St} (hk : Aw P md false ops [⟨dst, op, ty, pos, af, none⟩] s fun s' => Aw P md w ops os s' k) : EX P N0 md ops ⟨dst, op, ty, pos, af, none⟩ s fun s' => Aw P md w ops os s' k := Da hk.2 fun _ h => h.2
theorem MA {i : Int} {b : UInt8} (h : u8 i = some b) : (b.toNat : Int) = i := by
 unfold u8 at h
 split at h
 ·rename_i hc
  injection h with h; subst h
  have : i.toNat < 256 := by omega
  rw [UInt8.toNat_ofNat']
  rw [Nat.mod_eq_of_lt (by simpa using this)]; omega
 ·simp at h
theorem aX {u e : TypeId} {a : List UInt8} (hm : md d = 0) (hx : opL n l x = .str a) (hs : slD P u = some e) (ht : stD P t = true) (he : kiD P e = some .u8) (hk : Aw P md w ops os ⟨Ak n ((d, .sl 1 (a.map AH) 0) :: l), h⟩ k) :
  Aw P md w ops (⟨some d, .convert t u x, ty, pos, af, none⟩ :: os) ⟨Ak n l, h⟩ k := D2 (by
 simp only [Bq, hs, hx, VE, ht, he, hm, true_and]
 exact ⟨fun h0 => absurd h0 (by decide), fun _ => hk⟩)
theorem b5 {O : List (Nat × AObj)} {α : Type} {q r j B : Nat} {zs : List D} {c : α → List D} {L M : List α} {u : TypeId} {f : List α → Option β} (ok : OK h O) (hm : md d = 2) (hx : opL n l x = .sl q (L.map c) r) (hy : ∀ hh, KZ hh q (opL n l y) = some (M.map c))
  (hj : O[j]? = some (r, .room)) (hr : r ≠ 0) (he : elD P t = some (q, B, zs)) (hu : DM P u = true) (hF : Ap ((app B L M).bind f) G)
  (hk : ∀ r', r' ≠ 0 → OK h (O.set j (r', .room)) → Ap (f (L ++ M)) G → Aw P md w ops os ⟨Ak n ((d, .sl q ((L ++ M).map c) r') :: l), Hp h (O.set j (r', .room))⟩ k) :
  Aw P md w ops (⟨some d, .call ⟨.builtin .append, #[x, y], #[t, u]⟩, ty, pos, af, none⟩ :: os) ⟨Ak n l, Hp h O⟩ k := D2 (by
 obtain ⟨v, hv, hF⟩ := BT hF
 unfold app at hv
 split at hv
 ·rename_i hc
  injection hv with hv; subst hv
  simp only [Bq, Ep, List.map_cons, List.map_nil, hx, hy, hm, Fu, he, hu, true_and, List.length_map, DU j ok hj hr, NS]
  refine ⟨hc.1, hc.2, by decide, fun r' hf hr' => ?_⟩
  obtain ⟨e1, e2⟩ := Kz j ok hj hr
  rw [e1]
  have hf' : Hp h (O.set j (0, .room)) r' = none := by
   rw [← e1]
   by_cases e : r' = r
   ·subst e; exact Heap.upd_same ..
   ·rw [Heap.upd_ne _ _ e]; exact hf
  obtain ⟨hlt, _⟩ := List.getElem?_eq_some_iff.1 hj
  obtain ⟨e3, e4⟩ := JP (x := .room) j e2 (by simp [hlt]) hr' hf'
  rw [e3, List.set_set] at *
  rw [← List.map_append]
  exact hk r' hr' e4 hF
 ·simp at hv)
theorem ZT {O : List (Nat × AObj)} {r j B : Nat} {zs : List D} {L M : List UInt8} {u : TypeId} {f : List UInt8 → Option β} (ok : OK h O) (hm : md d = 2) (hx : opL n l x = .sl 1 (L.map AH) r) (hy : opL n l y = .str M)
  (hj : O[j]? = some (r, .room)) (hr : r ≠ 0) (he : elD P t = some (1, B, zs)) (hu : DM P u = true) (hF : Ap ((app B L M).bind f) G)
  (hk : ∀ r', r' ≠ 0 → OK h (O.set j (r', .room)) → Ap (f (L ++ M)) G → Aw P md w ops os ⟨Ak n ((d, .sl 1 ((L ++ M).map AH) r') :: l), Hp h (O.set j (r', .room))⟩ k) :
  Aw P md w ops (⟨some d, .call ⟨.builtin .append, #[x, y], #[t, u]⟩, ty, pos, af, none⟩ :: os) ⟨Ak n l, Hp h O⟩ k :=
 b5 ok hm hx (fun hh => by rw [hy]; rfl) hj hr he hu hF hk
end
theorem Wm {P : Program} {Q : Exit → St → Prop} {n : Nat} {l : List (Nat × D)} {h : Heap} {c : Operand} {x y : Code} {b : Bool} (hc : opL n l c = .bool b) (hb : b = true) (hT : WP P x Q ⟨Ak n l, h⟩) : WP P (.cond c x y) Q ⟨Ak n l, h⟩ := by
 refine PX ?_
 show Qw (opD (Ak n l) c) _ _
 rw [HV, hc, hb]; exact hT
theorem V7 {P : Program} {Q : Exit → St → Prop} {n : Nat} {l : List (Nat × D)} {h : Heap} {c : Operand} {x y : Code} {b : Bool} (hc : opL n l c = .bool b) (hb : b = false) (hE : WP P y Q ⟨Ak n l, h⟩) : WP P (.cond c x y) Q ⟨Ak n l, h⟩ := by
 refine PX ?_
 show Qw (opD (Ak n l) c) _ _
 rw [HV, hc, hb]; exact hE
theorem bm {P : Program} {md : Nat → Nat} {w : Bool} {ops : Array Oper} {os : List Oper} {k : St → Prop} {β : Type} {G : β → Prop} {b : Bool} {X Y : Option β} {s : St} (hF : Ap (cond b X Y) G) (h1 : b = true → Ap X G → Aw P md w ops os s k)
  (h2 : b = false → Ap Y G → Aw P md w ops os s k) : Aw P md w ops os s k := by
 rcases Pk hF with ⟨hb, h⟩ | ⟨hb, h⟩
 ·exact h1 hb h
 ·exact h2 hb h
theorem Exit.sel_ret {A : St → Prop} {Q : Exit → St → Prop} {s : St} (h : Q .ret s) : Exit.sel A Q .ret s := h
theorem Exit.blk_ret {i : Nat} {Q : Exit → St → Prop} {s : St} (h : Q .ret s) : Exit.blk i Q .ret s := h
end Go.Proofs.YtilhbalhkljanaaGreatDoor
