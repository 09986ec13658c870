/- One rule an operation, in step with a MS function. No condition. -/
import Derived.Test.YtilhbalhkljanaaGreatDoorEng18
set_option linter.unusedSimpArgs false
set_option linter.unusedVariables false
namespace Go.Proofs.YtilhbalhkljanaaGreatDoor
section
variable {P : Program} {md : Nat → Nat} {w : Bool} {ops : Array Oper} {os : List Oper} {k : St → Prop} {n : Nat} {l : List (Nat × D)} {h : Heap} {d : Nat} {t ty : TypeId} {pos : String} {af : Array Edge} {x y z : Operand}
variable {β : Type} {G : β → Prop}
theorem Et {op : Op} (he : By P N0 (md d) op (opL n l) h fun v h' => Av P md w ops os ⟨Al n ((d, v) :: l), h'⟩ k) : Av P md w ops (⟨some d, op, ty, pos, af, none⟩ :: os) ⟨Al n l, h⟩ k := Oh (by
 simp only [Fv, Cd, D7, Rp, Iu]
 exact he)
theorem ZV {op : Op} (he : By P N0 0 op (opL n l) h fun v h' => Av P md w ops os ⟨Al n l, h'⟩ k) : Av P md w ops (⟨none, op, ty, pos, af, none⟩ :: os) ⟨Al n l, h⟩ k := Oh (by
 simp only [Fv, Cd, D7, Iu]
 exact he)
theorem S_m {v : D} (hx : opL n l x = v) (hk : Av P md w ops os ⟨Al n ((d, v) :: l), h⟩ k) : Av P md w ops (⟨some d, .move x, ty, pos, af, none⟩ :: os) ⟨Al n l, h⟩ k := Et (by subst hx; exact hk)
theorem S_a {v : D} (hx : opL n l x = v) (hk : Av P md w ops os ⟨Al n ((d, v) :: l), h⟩ k) : Av P md w ops (⟨some d, .assign x, ty, pos, af, none⟩ :: os) ⟨Al n l, h⟩ k := Et (by subst hx; exact hk)
theorem UV {a b : Operand} {v : D} {c : Bool} (hc : opL n l x = .bool c) (hb : c = true) (ha : opL n l a = v) (hk : Av P md w ops os ⟨Al n ((d, v) :: l), h⟩ k) : Av P md w ops (⟨some d, .pick x a b, ty, pos, af, none⟩ :: os) ⟨Al n l, h⟩ k :=
 Et (by subst hb ha; simp only [By, hc, if_true]; exact hk)
theorem ax {a b : Operand} {v : D} {c : Bool} (hc : opL n l x = .bool c) (hb : c = false) (ha : opL n l b = v) (hk : Av P md w ops os ⟨Al n ((d, v) :: l), h⟩ k) : Av P md w ops (⟨some d, .pick x a b, ty, pos, af, none⟩ :: os) ⟨Al n l, h⟩ k :=
 Et (by subst hb ha; simp only [By, hc]; exact hk)
theorem D4 {op : BinOp} {u : TypeId} {dx dy v : D} (hx : opL n l x = dx) (hy : opL n l y = dy) (hb : BL P h op t dx dy = some v) (hk : Av P md w ops os ⟨Al n ((d, v) :: l), h⟩ k) :
  Av P md w ops (⟨some d, .binOp op t x y u, ty, pos, af, none⟩ :: os) ⟨Al n l, h⟩ k := Et (by simp only [By, hx, hy, Y7 hb, BB]; exact hk)
theorem gH {op : UnOp} {dx v : D} (hx : opL n l x = dx) (hb : unD op dx = some v) (hk : Av P md w ops os ⟨Al n ((d, v) :: l), h⟩ k) :
  Av P md w ops (⟨some d, .unOp op t x, ty, pos, af, none⟩ :: os) ⟨Al n l, h⟩ k := Et (by simp only [By, hx, hb, BB]; exact hk)
theorem Lb {u : TypeId} {dx v : D} (hx : opL n l x = dx) (hb : HS P h t u dx = some v) (hk : Av P md w ops os ⟨Al n ((d, v) :: l), h⟩ k) :
  Av P md w ops (⟨some d, .convert t u x, ty, pos, af, none⟩ :: os) ⟨Al n l, h⟩ k := Et (by
 simp only [By, hx]
 split
 ·rename_i el s hs
  rw [MY] at hb
  split at hb
  ·rename_i hc
   have h1 := Ex hc.1
   simp [slD, h1] at hs
  ·simp at hb
 ·rename_i el k' id' off' n' hs
  exfalso
  simp only [HS] at hb
  split at hb
  ·split at hb
   ·rename_i hc
    have h1 := Ex hc.2.1
    simp [slD, h1] at hs
   ·simp at hb
  ·simp at hb
 ·rw [hb, BB]; exact hk)
theorem fB {u : TypeId} {a b : List UInt8} {f : List UInt8 → Option β} (hx : opL n l x = .str a) (hy : opL n l y = .str b) (hF : Am ((cat a b).bind f) G)
  (hk : Am (f (a ++ b)) G → Av P md w ops os ⟨Al n ((d, .str (a ++ b)) :: l), h⟩ k) : Av P md w ops (⟨some d, .binOp .add t x y u, ty, pos, af, none⟩ :: os) ⟨Al n l, h⟩ k :=
 Et (by
  obtain ⟨v, hv, hF⟩ := BD hF
  unfold cat at hv
  split at hv
  ·rename_i hc
   injection hv with hv; subst hv
   simp only [By, hx, hy, PB, PX, Mb, Vn, if_pos hc, BB]; exact hk hF
  ·simp at hv)
def nzI (b : Int) : Option Int := if b = 0 then none else some b
theorem Vq {K K' : IntKind} {a b : Int} (hb : decide (b < 0) = false) : BL P h .shr t (.int K a) (.int K' b) = some (.int K (a.fdiv (2 ^ (min b.toNat K.bits)))) := by
 have : ¬ b < 0 := by simpa using hb
 rw [Z4, if_neg this]
theorem eJ {a b : Bool} (hb : boD P t = true) : BL P h .neq t (.bool a) (.bool b) = some (.bool (!(a == b))) := by rw [MR, if_pos hb]
theorem cD {a b : List UInt8} : BL P h .eql t (.str a) (.str b) = some (.bool (a == b)) := by rw [Mb, VK]
theorem dq {a b : List UInt8} : BL P h .neq t (.str a) (.str b) = some (.bool (!(a == b))) := by rw [Mb, Vy]
theorem cU {a b : List UInt8} : BL P h .lss t (.str a) (.str b) = some (.bool (Op.bytesLess a b)) := by rw [Mb, Vo]
theorem cy {a b : List UInt8} : BL P h .gtr t (.str a) (.str b) = some (.bool (!(Op.bytesLess a b || a == b))) := by rw [Mb, Vd]
theorem Yi {xs ys : List D} {fs : List (Nat × TypeId)} {b : Bool} (h1 : P.eqGuardType P.depth t = false) (h2 : sfD P t = some fs) (h3 : Dm (eqD P h 9999) P xs ys fs = some b) : BL P h .eql t (.agg xs) (.agg ys) = some (.bool b) := by
 rw [Oc, if_pos h1, h2, Option.bind_some, h3]; rfl
theorem QH {xs ys : List D} {fs : List (Nat × TypeId)} {b : Bool} (h1 : P.eqGuardType P.depth t = false) (h2 : sfD P t = some fs) (h3 : Dm (eqD P h 9999) P xs ys fs = some b) : BL P h .neq t (.agg xs) (.agg ys) = some (.bool !b) := by
 rw [Ox, if_pos h1, h2, Option.bind_some, h3]; rfl
theorem Yn {s : TypeId} {K K' : IntKind} {a : Int} (hk : kiD P t = some K') (hs : (P.underlying s).isSome = true) : HS P h s t (.int K a) = some (.int K' (K'.wrap a)) := by
 rw [Mr, hk]; simp only [hs, if_true]
theorem gO {s : TypeId} {K : IntKind} {a : Int} (hk : kiD P t = none) (hf : faD P t = none) (ht : stD P t = true) (hs : (P.underlying s).isSome = true) : HS P h s t (.int K a) = some (.str (Utf8.encode a).data.toList) := by
 rw [Mr, hk, hf]; simp only [hs, ht, and_self, if_true]
def AL (b : UInt8) : List D := [.int .u8 b.toNat]
theorem fg {s e : TypeId} {r : Nat} {a : List UInt8} (hs : slD P s = some e) (he : kiD P e = some .u8) (ht : stD P t = true) : HS P h s t (.sl 1 (a.map AL) r) = some (.str a) := by
 rw [ND, hs]
 simp only [he, ht, and_self, if_true]
 have := Rr a
 have e1 : (a.map fun b => [GX b]) = a.map AL := rfl
 rw [← e1, this]; rfl
theorem HU {α : Type} {q r : Nat} {c : α → List D} {L : List α} {e : TypeId} (hx : opL n l x = .sl q (L.map c) r) (ht : slD P t = some e) (hk : Av P md w ops os ⟨Al n ((d, .int .i64 (L.length : Int)) :: l), h⟩ k) :
  Av P md w ops (⟨some d, .call ⟨.builtin .len, #[x], #[t]⟩, ty, pos, af, none⟩ :: os) ⟨Al n l, h⟩ k := Et (by
 simp only [By, EG, List.map_cons, List.map_nil, hx, Kj, ht, Option.isSome_some, if_true, BB, List.length_map]; exact hk)
theorem dv {e : TypeId} (hx : opL n l x = .snil) (ht : slD P t = some e) (hk : Av P md w ops os ⟨Al n ((d, .int .i64 0) :: l), h⟩ k) :
  Av P md w ops (⟨some d, .call ⟨.builtin .len, #[x], #[t]⟩, ty, pos, af, none⟩ :: os) ⟨Al n l, h⟩ k := Et (by
 simp only [By, EG, List.map_cons, List.map_nil, hx, Kj, ht, Option.isSome_some, if_true, BB]; exact hk)
theorem cg {a : List UInt8} (hx : opL n l x = .str a) (ht : stD P t = true) (hk : Av P md w ops os ⟨Al n ((d, .int .i64 (a.length : Int)) :: l), h⟩ k) :
  Av P md w ops (⟨some d, .call ⟨.builtin .len, #[x], #[t]⟩, ty, pos, af, none⟩ :: os) ⟨Al n l, h⟩ k := Et (by
 simp only [By, EG, List.map_cons, List.map_nil, hx, Kj, ht, if_true, BB]; exact hk)
theorem bU {K K' : IntKind} {a b : Int} {ts : Array TypeId} (hx : opL n l x = .int K a) (hy : opL n l y = .int K' b) (hk : Av P md w ops os ⟨Al n ((d, .int K (if b < a then b else a)) :: l), h⟩ k) :
  Av P md w ops (⟨some d, .call ⟨.builtin .min, #[x, y], ts⟩, ty, pos, af, none⟩ :: os) ⟨Al n l, h⟩ k := Et (by
 simp only [By, List.map_cons, List.map_nil, hx, hy, YI]; exact hk)
theorem gq {ds : List D} {i : Nat} {v : D} (hx : opL n l x = .tup ds) (hv : Vc i (.tup ds) = some v) (hk : Av P md w ops os ⟨Al n ((d, v) :: l), h⟩ k) :
  Av P md w ops (⟨some d, .extract x i, ty, pos, af, none⟩ :: os) ⟨Al n l, h⟩ k := Et (by simp only [By, hx, hv, BB]; exact hk)
theorem UO {v : D} (hx : opL n l x = v) (hv : Ze v = some v) (hk : Av P md w ops os ⟨Al n ((d, v) :: l), h⟩ k) :
  Av P md w ops (⟨some d, .nilCheck x, ty, pos, af, none⟩ :: os) ⟨Al n l, h⟩ k := Et (by simp only [By, hx, hv, BB]; exact hk)
theorem Br {cs : List D} {f o : Nat} {ft : TypeId} {m : Nat} (hx : opL n l x = .iptr cs) (hf : fdD P t f = some (o, ft)) (hs : szD P ft = some (m + 1)) (ho : Nat.ble o cs.length = true) (hk : Av P md w ops os ⟨Al n ((d, .iptr (cs.drop o)) :: l), h⟩ k) :
  Av P md w ops (⟨some d, .fieldAddr t x f, ty, pos, af, none⟩ :: os) ⟨Al n l, h⟩ k := Et (by
 have ho' : o ≤ cs.length := Nat.le_of_ble_eq_true ho
 simp only [By, hx, U4, hf, hs, QT, ho', if_true]; exact ⟨_, by simp, hk⟩)
theorem DF {i off : Nat} {f o : Nat} {ft : TypeId} {m : Nat} (hx : opL n l x = .ptr i off) (hf : fdD P t f = some (o, ft)) (hs : szD P ft = some (m + 1)) (hk : Av P md w ops os ⟨Al n ((d, .ptr i (off + o)) :: l), h⟩ k) :
  Av P md w ops (⟨some d, .fieldAddr t x f, ty, pos, af, none⟩ :: os) ⟨Al n l, h⟩ k := Et (by
 simp only [By, hx, UT, hf, hs, QT]; exact ⟨_, by simp, hk⟩)
theorem Bf {cs ds : List D} {v : D} {m : Nat} (ha : agD P t = some false) (hs : szD P t = some m) (he : cs = v :: ds) : DW P t cs = some v := by
 subst he; simp only [DW, ha, hs]
theorem A4 {cs vs : List D} {m : Nat} (ha : agD P t = some true) (hs : szD P t = some m) (hl : Nat.ble m cs.length = true) (he : cs.take m = vs) : DW P t cs = some (.agg vs) := by
 simp only [DW, ha, hs, if_pos (Nat.le_of_ble_eq_true hl), he]
theorem AX {cs : List D} {v : D} (hx : opL n l x = .iptr cs) (hp : DW P t cs = some v) (hk : Av P md w ops os ⟨Al n ((d, v) :: l), h⟩ k) :
  Av P md w ops (⟨some d, .load t x, ty, pos, af, none⟩ :: os) ⟨Al n l, h⟩ k := Et (by simp only [By, hx, aG, hp, BB]; exact hk)
theorem DT {O : List (Nat × AObj)} {i off j : Nat} {cs : List D} {v : D} (ok : OK h O) (hm : md d = 0) (hx : opL n l x = .ptr i off) (hj : O[j]? = some (i, .cells cs)) (hi : i ≠ 0) (hp : DW P t (cs.drop off) = some v)
  (hk : Av P md w ops os ⟨Al n ((d, v) :: l), Hp h O⟩ k) : Av P md w ops (⟨some d, .load t x, ty, pos, af, none⟩ :: os) ⟨Al n l, Hp h O⟩ k := Et (by
 simp only [By, hx, hm, TX, Io, Eb j ok hj hi, hp, BB]; exact hk)
theorem Cv {O : List (Nat × AObj)} {i off j : Nat} {cs cs' : List D} {v : D} (ok : OK h O) (hx : opL n l x = .ptr i off) (hy : opL n l y = v) (hj : O[j]? = some (i, .cells cs)) (hi : i ≠ 0) (h1 : v.lay = true) (h2 : szD P t = some v.cells.length)
  (h3 : Nat.ble (off + v.cells.length) cs.length = true) (h4 : EJ cs off v.cells = cs') (hk : OK h (O.set j (i, .cells cs')) → Av P md w ops os ⟨Al n l, Hp h (O.set j (i, .cells cs'))⟩ k) :
  Av P md w ops (⟨none, .store t x y, ty, pos, af, none⟩ :: os) ⟨Al n l, Hp h O⟩ k := ZV (by
 obtain ⟨e1, e2⟩ := Kb (y := .cells cs') j ok hj hi
 subst hy h4
 simp only [By, hx, Lg, Eb j ok hj hi]
 exact ⟨h1, h2, Nat.le_of_ble_eq_true h3, by rw [e1]; exact hk e2⟩)
theorem Gh {α : Type} {q r : Nat} {c : α → List D} {L : List α} {K : IntKind} {i : Int} {e : TypeId} {f : α → Option β} (hx : opL n l x = .sl q (L.map c) r) (hy : opL n l y = .int K i) (hs : slD P t = some e) (hq : szD P e = some q)
  (hF : Am ((idx L i).bind f) G) (hk : ∀ a, idx L i = some a → Am (f a) G → Av P md w ops os ⟨Al n ((d, .iptr (c a)) :: l), h⟩ k) : Av P md w ops (⟨some d, .indexAddr t x y, ty, pos, af, none⟩ :: os) ⟨Al n l, h⟩ k := Et (by
 obtain ⟨a, ha, hF⟩ := BD hF
 have ha' := ha
 unfold idx at ha'
 split at ha'
 ·rename_i h0
  obtain ⟨hlt, he⟩ := List.getElem?_eq_some_iff.1 ha'
  have hlt' : i < (L.length : Int) := by omega
  have hg : (L.map c).getD i.toNat [] = c a := by simp [List.getD, ha']
  simp only [By, hx, hy, Ok, hs, Option.bind_some, hq, List.length_map, h0, hlt', true_and, if_true, BB, hg]
  exact hk a ha hF
 ·simp at ha')
theorem ZI {K : IntKind} {i : Int} {a : List UInt8} {f : UInt8 → Option β} (hx : opL n l x = .str a) (hy : opL n l y = .int K i) (hs : stD P t = true)
  (hF : Am ((idx a i).bind f) G) (hk : ∀ b, idx a i = some b → Am (f b) G → Av P md w ops os ⟨Al n ((d, .int .u8 (b.toNat : Int)) :: l), h⟩ k) : Av P md w ops (⟨some d, .index t x y, ty, pos, af, none⟩ :: os) ⟨Al n l, h⟩ k := Et (by
 obtain ⟨b, hb, hF⟩ := BD hF
 have ha' := hb
 unfold idx at ha'
 split at ha'
 ·rename_i h0
  obtain ⟨hlt, he⟩ := List.getElem?_eq_some_iff.1 ha'
  have hlt' : i < (a.length : Int) := by omega
  have hg : a.getD i.toNat 0 = b := by simp [List.getD, ha']
  simp only [By, hx, hy, P1, hs, h0, hlt', true_and, if_true, BB, hg]
  exact hk b hb hF
 ·simp at ha')
theorem N4 {α : Type} {L : List α} {i j : Int} {a : List α} (h : slc L i j = some a) : (0 ≤ i ∧ i ≤ j ∧ j ≤ (L.length : Int)) ∧ a = (L.drop i.toNat).take (j.toNat - i.toNat) := by
 unfold slc at h
 split at h
 ·rename_i hc; injection h with h; exact ⟨hc, h.symm⟩
 ·simp at h
theorem PP {a : List UInt8} {lo hi : Option Operand} {i j : Int} {f : List UInt8 → Option β} (hx : opL n l x = .str a) (hs : stD P t = true) (h1 : CF (lo.map (opL n l)) 0 = some i) (h2 : CF (hi.map (opL n l)) a.length = some j)
  (hF : Am ((slc a i j).bind f) G) (hk : ∀ b, slc a i j = some b → Am (f b) G → Av P md w ops os ⟨Al n ((d, .str b) :: l), h⟩ k) : Av P md w ops (⟨some d, .slice t x lo hi none, ty, pos, af, none⟩ :: os) ⟨Al n l, h⟩ k := Et (by
 obtain ⟨b, hb, hF⟩ := BD hF
 obtain ⟨hc, he⟩ := N4 hb
 simp only [By, hx, L8, hs, h1, h2, if_true, if_pos hc, BB, ← he]
 exact hk b hb hF)
theorem HC {α : Type} {q r : Nat} {c : α → List D} {L : List α} {e : TypeId} {lo hi : Option Operand} {i j : Int} {f : List α → Option β} (hx : opL n l x = .sl q (L.map c) r) (hs : slD P t = some e) (hq : szD P e = some q)
  (h1 : CF (lo.map (opL n l)) 0 = some i) (h2 : CF (hi.map (opL n l)) (L.map c).length = some j)
  (hF : Am ((slc L i j).bind f) G) (hk : ∀ b, slc L i j = some b → Am (f b) G → Av P md w ops os ⟨Al n ((d, .sl q (b.map c) 0) :: l), h⟩ k) : Av P md w ops (⟨some d, .slice t x lo hi none, ty, pos, af, none⟩ :: os) ⟨Al n l, h⟩ k := Et (by
 obtain ⟨b, hb, hF⟩ := BD hF
 obtain ⟨hc, he⟩ := N4 hb
 have hc' : 0 ≤ i ∧ i ≤ j ∧ j ≤ ((L.map c).length : Int) := by simpa using hc
 have e1 : ((L.map c).drop i.toNat).take (j.toNat - i.toNat) = b.map c := by rw [he, List.map_take, List.map_drop]
 simp only [By, hx, M1, hs, Option.bind_some, hq, h1, h2, if_true, if_pos hc', BB, e1]
 exact hk b hb hF)
theorem JA {a : Nat} : CF ((none : Option Operand).map (opL n l)) a = some (a : Int) := rfl
theorem EY {a : Nat} {K : IntKind} {i : Int} (hy : opL n l y = .int K i) : CF ((some y).map (opL n l)) a = some i := by
 simp only [Option.map_some, hy]; rfl
theorem Iz {α : Type} {c : α → List D} {L : List α} : CF ((none : Option Operand).map (opL n l)) (L.map c).length = some (L.length : Int) := by
 simp [CF]
theorem Uz {O : List (Nat × AObj)} {v : D} {cs : List D} (ok : OK h O) (hm : md d = 1) (hx : opL n l x = v) (h1 : v.lay = true) (h2 : v.cells = cs)
  (hk : ∀ i, i ≠ 0 → OK h ((i, .cells cs) :: O) → Av P md w ops os ⟨Al n ((d, .ptr i 0) :: l), Hp h ((i, .cells cs) :: O)⟩ k) : Av P md w ops (⟨some d, .box t x, ty, pos, af, none⟩ :: os) ⟨Al n l, Hp h O⟩ k := Et (by
 subst hx h2
 simp only [By, hm, QG]
 refine ⟨h1, fun i hf hi => ?_⟩
 obtain ⟨e1, e2⟩ := Kc (x := .cells (opL n l x).cells) ok hf hi
 rw [e1]; exact hk i hi e2)
theorem Dc {v : D} {cs : List D} (hm : md d = 0) (hx : opL n l x = v) (h1 : v.lay = true) (h2 : v.cells = cs)
  (hk : Av P md w ops os ⟨Al n ((d, .iptr cs) :: l), h⟩ k) : Av P md w ops (⟨some d, .box t x, ty, pos, af, none⟩ :: os) ⟨Al n l, h⟩ k := Et (by
 subst hx h2
 simp only [By, hm, Vf]
 exact ⟨h1, hk⟩)
theorem DB {O : List (Nat × AObj)} {cs : List D} (ok : OK h O) (hm : md d = 1) (hz : zcD P t = some cs)
  (hk : ∀ i, i ≠ 0 → OK h ((i, .cells cs) :: O) → Av P md w ops os ⟨Al n ((d, .ptr i 0) :: l), Hp h ((i, .cells cs) :: O)⟩ k) : Av P md w ops (⟨some d, .alloc t, ty, pos, af, none⟩ :: os) ⟨Al n l, Hp h O⟩ k := Et (by
 simp only [By, hm, hz, BB, QG]
 intro i hf hi
 obtain ⟨e1, e2⟩ := Kc (x := .cells cs) ok hf hi
 rw [e1]; exact hk i hi e2)
theorem CN {ps : Array (Nat × Operand)} {v : D} (hb : KY P t (ps.toList.map fun p => (p.1, opL n l p.2)) = some v) (hk : Av P md w ops os ⟨Al n ((d, v) :: l), h⟩ k) : Av P md w ops (⟨some d, .build t ps, ty, pos, af, none⟩ :: os) ⟨Al n l, h⟩ k := Et (by
 simp only [By, hb, BB]; exact hk)
theorem Ej {z cs : List D} {pl : List (Nat × Nat)} {parts : List (Nat × D)} (hz : zcD P t = some z) (hp : plD P t = some pl) (hf : F4 (fun i => pl[i]?) z parts = some cs) : KY P t parts = some (.agg cs) := by
 simp only [KY, hz, hp, hf]; rfl
theorem Fq {ps : Array (Nat × Operand)} {m q B : Nat} {zs cs : List D} {es : List (List D)} (hm : md d = 0) (he : elD P t = some (q, B, zs)) (hn : Nat.ble (m * q) 16777216 = true)
  (hf : F4 (fun i => some (i * q, q)) (List.replicate m zs).flatten (ps.toList.map fun p => (p.1, opL n l p.2)) = some cs) (hc : C1 q m cs = es)
  (hk : Av P md w ops os ⟨Al n ((d, .sl q es 0) :: l), h⟩ k) : Av P md w ops (⟨some d, .buildSlice t m ps, ty, pos, af, none⟩ :: os) ⟨Al n l, h⟩ k := Et (by
 subst hc
 simp only [By, M4, he, hm, hf, S3]
 exact ⟨Nat.le_of_ble_eq_true hn, hk⟩)
theorem bH {O : List (Nat × AObj)} {α : Type} {q r r2 j B : Nat} {zs : List D} {c : α → List D} {L M : List α} {u : TypeId} {f : List α → Option β} (ok : OK h O) (hm : md d = 2) (hx : opL n l x = .sl q (L.map c) r) (hy : opL n l y = .sl q (M.map c) r2)
  (hj : O[j]? = some (r, .room)) (hr : r ≠ 0) (he : elD P t = some (q, B, zs)) (hu : D2 P u = true) (hF : Am ((app B L M).bind f) G)
  (hk : ∀ r', r' ≠ 0 → OK h (O.set j (r', .room)) → Am (f (L ++ M)) G → Av P md w ops os ⟨Al n ((d, .sl q ((L ++ M).map c) r') :: l), Hp h (O.set j (r', .room))⟩ k) :
  Av P md w ops (⟨some d, .call ⟨.builtin .append, #[x, y], #[t, u]⟩, ty, pos, af, none⟩ :: os) ⟨Al n l, Hp h O⟩ k := Et (by
 obtain ⟨v, hv, hF⟩ := BD hF
 unfold app at hv
 split at hv
 ·rename_i hc
  injection hv with hv; subst hv
  simp only [By, EG, List.map_cons, List.map_nil, hx, hy, hm, Gf, he, LJ, if_true, hu, true_and, List.length_map, Eb j ok hj hr, OQ]
  refine ⟨hc.1, hc.2, by decide, fun r' hf hr' => ?_⟩
  obtain ⟨e1, e2⟩ := Ld j ok hj hr
  rw [e1]
  have hf' : Hp h (O.set j (0, .room)) r' = none := by
   rw [← e1]
   by_cases e : r' = r
   ·subst e; exact Heap.upd_same ..
   ·rw [Heap.upd_ne _ _ e]; exact hf
  obtain ⟨hlt, _⟩ := List.getElem?_eq_some_iff.1 hj
  obtain ⟨e3, e4⟩ := KB (x := .room) j e2 (by simp [hlt]) hr' hf'
  rw [e3, List.set_set] at *
  rw [← List.map_append]
  exact hk r' hr' e4 hF
 ·simp at hv)
theorem CallsA.arg {f : FuncId} {ds0 ds : List D} {h : Heap} {R : D → Heap → Prop} (hw : WdC ds0 ds) (c : CallsA P f ds h R) : CallsA P f ds0 h R :=
 c.imp (fun c => ⟨c.1, fun K w vs H hl hv => c.2 K w vs H (hl.trans hw.l) fun i => (hw.c i).rel (hv i)⟩) fun c K w vs H hl hv => c K w vs H (hl.trans hw.l) fun i => (hw.c i).rel (hv i)
theorem CallsA.ret {f : FuncId} {ds : List D} {h : Heap} {R : D → Heap → Prop} (c : CallsA P f ds h fun d h' => ∃ d2 h2, Wd d d2 ∧ WH h' h2 ∧ R d2 h2) : CallsA P f ds h R :=
 c.imp (fun c => ⟨c.1, fun K w vs H hl hv => (c.2 K w vs H hl hv).mono fun e w' ⟨v, d, K', h', a, b, cc, dd, d2, h2, w1, w2, r⟩ => ⟨v, d2, K', h2, a, b, cc.weaken w2, w1.rel dd, r⟩⟩)
  fun c K w vs H hl hv => let ⟨v, w', d, K', h', a, b, cc, dd, d2, h2, w1, w2, r⟩ := c K w vs H hl hv; ⟨v, w', d2, K', h2, a, b, cc.weaken w2, w1.rel dd, r⟩
theorem I3 {g : FuncId} {args : Array Operand} {ts : Array TypeId} {ds : List D} (hc : CallsA P g ds h fun v h' => Av P md w ops os ⟨Al n ((d, v) :: l), h'⟩ k) (hw : WdC (args.toList.map (opL n l)) ds) :
  Av P md w ops (⟨some d, .call ⟨.value (.func g), args, ts⟩, ty, pos, af, none⟩ :: os) ⟨Al n l, h⟩ k := Et (by
 have := hc.arg hw
 simpa only [By, opL, List.nil_append, List.append_nil] using this)
theorem OK.wh {O : List (Nat × AObj)} (ok : OK h O) : WH (Hp h O) h := by
 have : ∀ O : List (Nat × AObj), WO O [] := fun O => by induction O with | nil => exact .nil | cons p O ih => exact .drop ih
 exact ((this O).spec ok).2.2
inductive RV (P : Program) (n : Nat) (l : List (Nat × D)) (h : Heap) : List ResultVar → List D → Prop
 | nil : RV P n l h [] []
 | tmp {t : Nat} {v : D} {rs : List ResultVar} {vs : List D} (hx : opL n l (.tmp t) = v) (r : RV P n l h rs vs) : RV P n l h (.tmp t :: rs) (v :: vs)
 | cell {a : Nat} {t : TypeId} {p v : D} {rs : List ResultVar} {vs : List D} (hx : opL n l (.tmp a) = p) (hl : JB P h t p = some v) (r : RV P n l h rs vs) : RV P n l h (.cell a t :: rs) (v :: vs)
theorem RV.spec : ∀ {rs : List ResultVar} {vs : List D}, RV P n l h rs vs → rs.mapM (R3 P ⟨Al n l, h⟩) = some vs
 | _, _, .nil => rfl
 | _, _, .tmp (t := t) hx r => by
  have : (Al n l).getD t .any = opL n l (.tmp t) := congrFun (Iu n l) (.tmp t)
  simp only [List.mapM_cons, R3, this, hx, r.spec]; rfl
 | _, _, .cell (a := a) hx hl r => by
  have : (Al n l).getD a .any = opL n l (.tmp a) := congrFun (Iu n l) (.tmp a)
  simp only [List.mapM_cons, R3, this, hx, hl, r.spec]; rfl
theorem GO {O : List (Nat × AObj)} {i off j : Nat} {cs : List D} {v : D} (ok : OK h O) (hj : O[j]? = some (i, .cells cs)) (hi : i ≠ 0) (hp : DW P t (cs.drop off) = some v) : JB P (Hp h O) t (.ptr i off) = some v := by
 rw [Io, Eb j ok hj hi]; exact hp
theorem F6 {fn : Func} {rs : List ResultVar} {vs : List D} {R : D → Heap → Prop} (hr : fn.results.toList = rs) (hv : RV P n l h rs vs) (hR : R (Rq vs) h) : Zo P fn R .ret ⟨Al n l, h⟩ := by
 show Am (fn.results.toList.mapM (R3 P ⟨Al n l, h⟩)) fun l => R (Rq l) h
 rw [hr, hv.spec, BB]; exact hR
theorem Jf {fn : Func} {rs : List ResultVar} {vs : List D} {R : D → Heap → Prop} (hr : fn.results.toList = rs) (hv : RV P n l h rs vs) (hR : R (Rq vs) h) : Zo P fn R .normal ⟨Al n l, h⟩ := F6 hr hv hR
def Q9 : Nat → List D → List (Nat × D)
 | _, [] => []
 | i, d :: ds => (i, d) :: Q9 (i + 1) ds
theorem RM : ∀ (ds : List D) (i t : Nat), EL (Q9 i ds) t = if i ≤ t then ds.getD (t - i) .any else .any
 | [], i, t => by simp [Q9, EL]
 | d :: ds, i, t => by
  show (match Nat.beq i t with | true => d | false => EL (Q9 (i + 1) ds) t) = _
  cases hb : Nat.beq i t with
  | true => rw [Nat.beq_eq] at hb; subst hb; simp
  | false =>
   have hne : i ≠ t := fun e => by rw [e, Nat.beq_refl] at hb; simp at hb
   simp only [RM ds (i + 1) t]
   by_cases h1 : i ≤ t
   ·have e : t - i = (t - (i + 1)) + 1 := by omega
    rw [if_pos h1, if_pos om, e]; simp
   ·rw [if_neg h1, if_neg om]
theorem YY (ds : List D) (m : Nat) : ds ++ List.replicate m .any = Al (ds.length + m) (Q9 0 ds) := by
 refine List.ext_getElem? fun j => ?_
 by_cases hj : j < ds.length + m
 ·simp only [Al, List.getElem?_map, List.getElem?_range hj, Option.map_some, RM]
  by_cases h1 : j < ds.length
  ·rw [List.getElem?_append_left h1]; simp [List.getD, h1]
  ·rw [List.getElem?_append_right om, List.getElem?_replicate, if_pos om]
   simp [List.getD, h1]
 ·rw [List.getElem?_eq_none (by simp; omega), List.getElem?_eq_none (by simp [Al]; omega)]
theorem Be {f : FuncId} {fn : Func} {c : Code} {args : List D} {h : Heap} {R : D → Heap → Prop} {N : Nat} (hf : P.funcs[f]? = some fn) (hb : fn.body = some c) (he : BM P f = true) (hn : fn.ntmps = N) (ha : args.length + (N - args.length) = N)
  (hw : OK h [] → WP P c (Zo P fn R) ⟨Al N (Q9 0 args), Hp h []⟩) : CallsA P f args h R := by
 refine MZ hf hb he ?_
 rw [hn, YY, ha]; exact hw trivial
def iO (n : Int) : List D := [.int .i8 n]
def iA (n : Int) : List D := [.int .i16 n]
def iB (n : Int) : List D := [.int .i32 n]
def Pz (n : Int) : List D := [.int .i64 n]
def iC (n : Int) : List D := [.int .u16 n]
def iw (n : Int) : List D := [.int .u32 n]
def ix (n : Int) : List D := [.int .u64 n]
def hD (b : Bool) : List D := [.bool b]
def JC (x : List UInt8) : List D := [.str x]
def iy (n : Nat) : List D := [.float .f64 n]
def iq (n : Nat × Nat) : List D := [.cplx .f64 n.1 n.2]
def iG {α : Type} (q : Nat) (c : α → List D) (l : List α) : List D := [.sl q (l.map c) 0]
def iF (k : IntKind) (a b : Int) : Int := k.wrap ((BitVec.ofInt k.bits a &&& BitVec.ofInt k.bits b).toNat : Int)
def ior (k : IntKind) (a b : Int) : Int := k.wrap ((BitVec.ofInt k.bits a ||| BitVec.ofInt k.bits b).toNat : Int)
def iE (k : IntKind) (a b : Int) : Int := k.wrap ((BitVec.ofInt k.bits a ^^^ BitVec.ofInt k.bits b).toNat : Int)
def gF (k : IntKind) (a b : Int) : Int := k.wrap ((BitVec.ofInt k.bits a &&& ~~~(BitVec.ofInt k.bits b)).toNat : Int)
def iH (k : IntKind) (a b : Int) : Int := k.wrap (a * 2 ^ (min b.toNat k.bits))
def DU (k : IntKind) (a b : Int) : Int := a.fdiv (2 ^ (min b.toNat k.bits))
def ngI (b : Int) : Option Int := if b < 0 then none else some b
theorem gK {K : IntKind} {a b : Int} : BL P h .or t (.int K a) (.int K b) = some (.int K (ior K a b)) := bY ..
theorem gU {dst : Option Nat} {op : Op} {s : St} (hk : Av P md false ops [⟨dst, op, ty, pos, af, none⟩] s fun s' => Av P md w ops os s' k) : Fv P N0 md ops ⟨dst, op, ty, pos, af, none⟩ s fun s' => Av P md w ops os s' k := Dt hk.2 fun _ h => h.2
theorem Nl {i : Int} {b : UInt8} (h : u8 i = some b) : (b.toNat : Int) = i := by
 unfold u8 at h
 split at h
 ·rename_i hc
  injection h with h; subst h
  have : i.toNat < 256 := by omega
  rw [UInt8.toNat_ofNat']
  rw [Nat.mod_eq_of_lt (by simpa using this)]; omega
 ·simp at h
theorem cN {u e : TypeId} {a : List UInt8} (hm : md d = 0) (hx : opL n l x = .str a) (hs : slD P u = some e) (ht : stD P t = true) (he : kiD P e = some .u8) (hk : Av P md w ops os ⟨Al n ((d, .sl 1 (a.map AL) 0) :: l), h⟩ k) :
  Av P md w ops (⟨some d, .convert t u x, ty, pos, af, none⟩ :: os) ⟨Al n l, h⟩ k := Et (by
 simp only [By, hs, hx, VX, ht, he, hm, true_and]
 exact ⟨fun h0 => absurd h0 (by decide), fun _ => hk⟩)
theorem cC {O : List (Nat × AObj)} {α : Type} {q r j B : Nat} {zs : List D} {c : α → List D} {L M : List α} {u : TypeId} {f : List α → Option β} (ok : OK h O) (hm : md d = 2) (hx : opL n l x = .sl q (L.map c) r) (hy : ∀ hh, LJ hh q (opL n l y) = some (M.map c))
  (hj : O[j]? = some (r, .room)) (hr : r ≠ 0) (he : elD P t = some (q, B, zs)) (hu : D2 P u = true) (hF : Am ((app B L M).bind f) G)
  (hk : ∀ r', r' ≠ 0 → OK h (O.set j (r', .room)) → Am (f (L ++ M)) G → Av P md w ops os ⟨Al n ((d, .sl q ((L ++ M).map c) r') :: l), Hp h (O.set j (r', .room))⟩ k) :
  Av P md w ops (⟨some d, .call ⟨.builtin .append, #[x, y], #[t, u]⟩, ty, pos, af, none⟩ :: os) ⟨Al n l, Hp h O⟩ k := Et (by
 obtain ⟨v, hv, hF⟩ := BD hF
 unfold app at hv
 split at hv
 ·rename_i hc
  injection hv with hv; subst hv
  simp only [By, EG, List.map_cons, List.map_nil, hx, hy, hm, Gf, he, hu, true_and, List.length_map, Eb j ok hj hr, OQ]
  refine ⟨hc.1, hc.2, by decide, fun r' hf hr' => ?_⟩
  obtain ⟨e1, e2⟩ := Ld j ok hj hr
  rw [e1]
  have hf' : Hp h (O.set j (0, .room)) r' = none := by
   rw [← e1]
   by_cases e : r' = r
   ·subst e; exact Heap.upd_same ..
   ·rw [Heap.upd_ne _ _ e]; exact hf
  obtain ⟨hlt, _⟩ := List.getElem?_eq_some_iff.1 hj
  obtain ⟨e3, e4⟩ := KB (x := .room) j e2 (by simp [hlt]) hr' hf'
  rw [e3, List.set_set] at *
  rw [← List.map_append]
  exact hk r' hr' e4 hF
 ·simp at hv)
theorem eb {O : List (Nat × AObj)} {r j B : Nat} {zs : List D} {L M : List UInt8} {u : TypeId} {f : List UInt8 → Option β} (ok : OK h O) (hm : md d = 2) (hx : opL n l x = .sl 1 (L.map AL) r) (hy : opL n l y = .str M)
  (hj : O[j]? = some (r, .room)) (hr : r ≠ 0) (he : elD P t = some (1, B, zs)) (hu : D2 P u = true) (hF : Am ((app B L M).bind f) G)
  (hk : ∀ r', r' ≠ 0 → OK h (O.set j (r', .room)) → Am (f (L ++ M)) G → Av P md w ops os ⟨Al n ((d, .sl 1 ((L ++ M).map AL) r') :: l), Hp h (O.set j (r', .room))⟩ k) :
  Av P md w ops (⟨some d, .call ⟨.builtin .append, #[x, y], #[t, u]⟩, ty, pos, af, none⟩ :: os) ⟨Al n l, Hp h O⟩ k :=
 cC ok hm hx (fun hh => by rw [hy]; rfl) hj hr he hu hF hk
end
theorem Zv {P : Program} {Q : Exit → St → Prop} {n : Nat} {l : List (Nat × D)} {h : Heap} {c : Operand} {x y : Code} {b : Bool} (hc : opL n l c = .bool b) (hb : b = true) (hT : WP P x Q ⟨Al n l, h⟩) : WP P (.cond c x y) Q ⟨Al n l, h⟩ := by
 refine Q2 ?_
 show S6 (opD (Al n l) c) _ _
 rw [Iu, hc, hb]; exact hT
theorem Yu {P : Program} {Q : Exit → St → Prop} {n : Nat} {l : List (Nat × D)} {h : Heap} {c : Operand} {x y : Code} {b : Bool} (hc : opL n l c = .bool b) (hb : b = false) (hE : WP P y Q ⟨Al n l, h⟩) : WP P (.cond c x y) Q ⟨Al n l, h⟩ := by
 refine Q2 ?_
 show S6 (opD (Al n l) c) _ _
 rw [Iu, hc, hb]; exact hE
theorem Wi {P : Program} {md : Nat → Nat} {w : Bool} {ops : Array Oper} {os : List Oper} {k : St → Prop} {β : Type} {G : β → Prop} {b : Bool} {X Y : Option β} {s : St} (hF : Am (cond b X Y) G) (h1 : b = true → Am X G → Av P md w ops os s k)
  (h2 : b = false → Am Y G → Av P md w ops os s k) : Av P md w ops os s k := by
 rcases Qw hF with ⟨hb, h⟩ | ⟨hb, h⟩
 ·exact h1 hb h
 ·exact h2 hb h
theorem Exit.sel_ret {A : St → Prop} {Q : Exit → St → Prop} {s : St} (h : Q .ret s) : Exit.sel A Q .ret s := h
theorem Exit.blk_ret {i : Nat} {Q : Exit → St → Prop} {s : St} (h : Q .ret s) : Exit.blk i Q .ret s := h
end Go.Proofs.YtilhbalhkljanaaGreatDoor
