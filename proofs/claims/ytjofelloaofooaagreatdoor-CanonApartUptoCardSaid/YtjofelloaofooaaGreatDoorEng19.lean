/- One rule an operation, in step with a plain function. No condition. -/
import Derived.Test.YtjofelloaofooaaGreatDoorEng18
set_option linter.unusedSimpArgs false
set_option linter.unusedVariables false
namespace Go.Proofs.YtjofelloaofooaaGreatDoor
section
variable {P : Program} {md : Nat -> Nat} {w : Bool} {ops : Array Oper} {os : List Oper} {k : St -> Prop} {n : Nat} {l : List (Nat × D)} {h : Heap} {d : Nat} {t ty : TypeId} {pos : String} {af : Array Edge} {x y z : Operand}
variable {β : Type} {G : β -> Prop}
theorem Fz {op : Op} (he : BU P N0 (md d) op (opL n l) h fun v h' => A0 P md w ops os ⟨AM n ((d, v) :: l), h'⟩ k) : A0 P md w ops (⟨some d, op, ty, pos, af, none⟩ :: os) ⟨AM n l, h⟩ k := Ly (by
 simp only [Fg, Bs, EZ, Nn, Hg]
 exact he)
theorem UG {op : Op} (he : BU P N0 0 op (opL n l) h fun v h' => A0 P md w ops os ⟨AM n l, h'⟩ k) : A0 P md w ops (⟨none, op, ty, pos, af, none⟩ :: os) ⟨AM n l, h⟩ k := Ly (by
 simp only [Fg, Bs, EZ, Hg]
 exact he)
theorem S_m {v : D} (hx : opL n l x = v) (hk : A0 P md w ops os ⟨AM n ((d, v) :: l), h⟩ k) : A0 P md w ops (⟨some d, .move x, ty, pos, af, none⟩ :: os) ⟨AM n l, h⟩ k := Fz (by subst hx; exact hk)
theorem S_a {v : D} (hx : opL n l x = v) (hk : A0 P md w ops os ⟨AM n ((d, v) :: l), h⟩ k) : A0 P md w ops (⟨some d, .assign x, ty, pos, af, none⟩ :: os) ⟨AM n l, h⟩ k := Fz (by subst hx; exact hk)
theorem QI {a b : Operand} {v : D} {c : Bool} (hc : opL n l x = .bool c) (hb : c = true) (ha : opL n l a = v) (hk : A0 P md w ops os ⟨AM n ((d, v) :: l), h⟩ k) : A0 P md w ops (⟨some d, .pick x a b, ty, pos, af, none⟩ :: os) ⟨AM n l, h⟩ k :=
 Fz (by subst hb ha; simp only [BU, hc, if_true]; exact hk)
theorem UH {a b : Operand} {v : D} {c : Bool} (hc : opL n l x = .bool c) (hb : c = false) (ha : opL n l b = v) (hk : A0 P md w ops os ⟨AM n ((d, v) :: l), h⟩ k) : A0 P md w ops (⟨some d, .pick x a b, ty, pos, af, none⟩ :: os) ⟨AM n l, h⟩ k :=
 Fz (by subst hb ha; simp only [BU, hc]; exact hk)
theorem D1 {op : BinOp} {u : TypeId} {dx dy v : D} (hx : opL n l x = dx) (hy : opL n l y = dy) (hb : EQ P h op t dx dy = some v) (hk : A0 P md w ops os ⟨AM n ((d, v) :: l), h⟩ k) :
  A0 P md w ops (⟨some d, .binOp op t x y u, ty, pos, af, none⟩ :: os) ⟨AM n l, h⟩ k := Fz (by simp only [BU, hx, hy, Rn hb, OptP_some]; exact hk)
theorem Abg {op : UnOp} {dx v : D} (hx : opL n l x = dx) (hb : unD op dx = some v) (hk : A0 P md w ops os ⟨AM n ((d, v) :: l), h⟩ k) :
  A0 P md w ops (⟨some d, .unOp op t x, ty, pos, af, none⟩ :: os) ⟨AM n l, h⟩ k := Fz (by simp only [BU, hx, hb, OptP_some]; exact hk)
theorem Qw {u : TypeId} {dx v : D} (hx : opL n l x = dx) (hb : HY P h t u dx = some v) (hk : A0 P md w ops os ⟨AM n ((d, v) :: l), h⟩ k) :
  A0 P md w ops (⟨some d, .convert t u x, ty, pos, af, none⟩ :: os) ⟨AM n l, h⟩ k := Fz (by
 simp only [BU, hx];split
 ·rename_i el s hs;rw [M2] at hb;split at hb
  ·rename_i hc;have h1 := DF hc.1;simp [slD, h1] at hs
  ·simp at hb
 ·rename_i el k' id' off' n' hs;exfalso;simp only [HY] at hb;split at hb
  ·split at hb
   ·rename_i hc;have h1 := DF hc.2.1;simp [slD, h1] at hs
   ·simp at hb
  ·simp at hb
 ·rw [hb, OptP_some]; exact hk)
theorem R9 {u : TypeId} {a b : List By8} {f : List By8 -> Option β} (hx : opL n l x = .str a) (hy : opL n l y = .str b) (hF : OptP ((cat a b).bind f) G)
  (hk : OptP (f (a ++ b)) G -> A0 P md w ops os ⟨AM n ((d, .str (a ++ b)) :: l), h⟩ k) : A0 P md w ops (⟨some d, .binOp .add t x y u, ty, pos, af, none⟩ :: os) ⟨AM n l, h⟩ k :=
 Fz (by
  obtain ⟨v, hv, hF⟩ := By hF;unfold cat at hv;split at hv
  ·rename_i hc;injection hv with hv; subst hv
   simp only [BU, hx, hy, LV, LM, Lz, U8, if_pos hc, OptP_some]; exact hk hF
  ·simp at hv)
def nzI (b : Int) : Option Int := if b = 0 then none else some b
theorem Zr {K K' : IntKind} {a b : Int} (hb : decide (b < 0) = false) : EQ P h .shr t (.int K a) (.int K' b) = some (.int K (a.fdiv (2 ^ (min b.toNat K.bits)))) := by
 have : ¬ b < 0 := by simpa using hb
 rw [Xw, if_neg this]
theorem WD {a b : Bool} (hb : boD P t = true) : EQ P h .eql t (.bool a) (.bool b) = some (.bool (a == b)) := by rw [MT, if_pos hb]
theorem Xp {a b : List By8} : EQ P h .eql t (.str a) (.str b) = some (.bool (a == b)) := by rw [Lz, TE]
theorem Tr {a b : List By8} : EQ P h .neq t (.str a) (.str b) = some (.bool (!(a == b))) := by rw [Lz, T1]
theorem Tf {a b : List By8} : EQ P h .lss t (.str a) (.str b) = some (.bool (Op.bytesLess a b)) := by rw [Lz, TG]
theorem VH {a b : List By8} : EQ P h .gtr t (.str a) (.str b) = some (.bool (!(Op.bytesLess a b || a == b))) := by rw [Lz, TB]
theorem Xk {xs ys : List D} {fs : List (Nat × TypeId)} {b : Bool} (h1 : P.eqGuardType P.depth t = false) (h2 : sfD P t = some fs) (h3 : Cg (eqD P h 9999) P xs ys fs = some b) : EQ P h .eql t (.agg xs) (.agg ys) = some (.bool b) := by
 rw [OQ, if_pos h1, h2, ba, h3]; rfl
theorem LT {xs ys : List D} {fs : List (Nat × TypeId)} {b : Bool} (h1 : P.eqGuardType P.depth t = false) (h2 : sfD P t = some fs) (h3 : Cg (eqD P h 9999) P xs ys fs = some b) : EQ P h .neq t (.agg xs) (.agg ys) = some (.bool !b) := by
 rw [OU, if_pos h1, h2, ba, h3]; rfl
theorem ZB {s : TypeId} {K K' : IntKind} {a : Int} (hk : kiD P t = some K') (hs : (P.underlying s).isSome = true) : HY P h s t (.int K a) = some (.int K' (K'.wrap a)) := by
 rw [Qn, hk]; simp only [hs, if_true]
def JN (b : By8) : List D := [.int .u8 b.toNat]
theorem Yi {s e : TypeId} {r : Nat} {a : List By8} (hs : slD P s = some e) (he : kiD P e = some .u8) (ht : stD P t = true) : HY P h s t (.sl 1 (a.map JN) r) = some (.str a) := by
 rw [O1, hs];simp only [he, ht, and_self, if_true];have := Mv a;have e1 : (a.map fun b => [Gp b]) = a.map JN := rfl;rw [<- e1, this]; rfl
theorem IU {α : Type} {q r : Nat} {c : α -> List D} {L : List α} {e : TypeId} (hx : opL n l x = .sl q (L.map c) r) (ht : slD P t = some e) (hk : A0 P md w ops os ⟨AM n ((d, .int .i64 (L.length : Int)) :: l), h⟩ k) :
  A0 P md w ops (⟨some d, .call ⟨.builtin .len, #[x], #[t]⟩, ty, pos, af, none⟩ :: os) ⟨AM n l, h⟩ k := Fz (by
 simp only [BU, Fc, List.map_cons, List.map_nil, hx, Oz, ht, Option.isSome_some, if_true, OptP_some, List.length_map]; exact hk)
theorem VC {e : TypeId} (hx : opL n l x = .snil) (ht : slD P t = some e) (hk : A0 P md w ops os ⟨AM n ((d, .int .i64 0) :: l), h⟩ k) :
  A0 P md w ops (⟨some d, .call ⟨.builtin .len, #[x], #[t]⟩, ty, pos, af, none⟩ :: os) ⟨AM n l, h⟩ k := Fz (by
 simp only [BU, Fc, List.map_cons, List.map_nil, hx, Oz, ht, Option.isSome_some, if_true, OptP_some]; exact hk)
theorem Xx {a : List By8} (hx : opL n l x = .str a) (ht : stD P t = true) (hk : A0 P md w ops os ⟨AM n ((d, .int .i64 (a.length : Int)) :: l), h⟩ k) :
  A0 P md w ops (⟨some d, .call ⟨.builtin .len, #[x], #[t]⟩, ty, pos, af, none⟩ :: os) ⟨AM n l, h⟩ k := Fz (by
 simp only [BU, Fc, List.map_cons, List.map_nil, hx, Oz, ht, if_true, OptP_some]; exact hk)
theorem YZ {K K' : IntKind} {a b : Int} {ts : Array TypeId} (hx : opL n l x = .int K a) (hy : opL n l y = .int K' b) (hk : A0 P md w ops os ⟨AM n ((d, .int K (if b < a then b else a)) :: l), h⟩ k) :
  A0 P md w ops (⟨some d, .call ⟨.builtin .min, #[x, y], ts⟩, ty, pos, af, none⟩ :: os) ⟨AM n l, h⟩ k := Fz (by
 simp only [BU, List.map_cons, List.map_nil, hx, hy, Wi]; exact hk)
theorem YB {ds : List D} {i : Nat} {v : D} (hx : opL n l x = .tup ds) (hv : Sm i (.tup ds) = some v) (hk : A0 P md w ops os ⟨AM n ((d, v) :: l), h⟩ k) :
  A0 P md w ops (⟨some d, .extract x i, ty, pos, af, none⟩ :: os) ⟨AM n l, h⟩ k := Fz (by simp only [BU, hx, hv, OptP_some]; exact hk)
theorem NE {v : D} (hx : opL n l x = v) (hv : Wj v = some v) (hk : A0 P md w ops os ⟨AM n ((d, v) :: l), h⟩ k) :
  A0 P md w ops (⟨some d, .nilCheck x, ty, pos, af, none⟩ :: os) ⟨AM n l, h⟩ k := Fz (by simp only [BU, hx, hv, OptP_some]; exact hk)
theorem A3 {cs : List D} {f o : Nat} {ft : TypeId} {m : Nat} (hx : opL n l x = .iptr cs) (hf : fdD P t f = some (o, ft)) (hs : szD P ft = some (m + 1)) (ho : Nat.ble o cs.length = true) (hk : A0 P md w ops os ⟨AM n ((d, .iptr (cs.drop o)) :: l), h⟩ k) :
  A0 P md w ops (⟨some d, .fieldAddr t x f, ty, pos, af, none⟩ :: os) ⟨AM n l, h⟩ k := Fz (by
 have ho' : o <= cs.length := Nat.le_of_ble_eq_true ho
 simp only [BU, hx, Uf, hf, hs, Qq, ho', if_true]; exact ⟨_, by simp, hk⟩)
theorem Ix {i off : Nat} {f o : Nat} {ft : TypeId} {m : Nat} (hx : opL n l x = .ptr i off) (hf : fdD P t f = some (o, ft)) (hs : szD P ft = some (m + 1)) (hk : A0 P md w ops os ⟨AM n ((d, .ptr i (off + o)) :: l), h⟩ k) :
  A0 P md w ops (⟨some d, .fieldAddr t x f, ty, pos, af, none⟩ :: os) ⟨AM n l, h⟩ k := Fz (by
 simp only [BU, hx, U5, hf, hs, Qq]; exact ⟨_, by simp, hk⟩)
theorem A7 {cs ds : List D} {v : D} {m : Nat} (ha : agD P t = some false) (hs : szD P t = some m) (he : cs = v :: ds) : Ek P t cs = some v := by
 subst he; simp only [Ek, ha, hs]
theorem BX {cs vs : List D} {m : Nat} (ha : agD P t = some true) (hs : szD P t = some m) (hl : Nat.ble m cs.length = true) (he : cs.take m = vs) : Ek P t cs = some (.agg vs) := by
 simp only [Ek, ha, hs, if_pos (Nat.le_of_ble_eq_true hl), he]
theorem Az {cs : List D} {v : D} (hx : opL n l x = .iptr cs) (hp : Ek P t cs = some v) (hk : A0 P md w ops os ⟨AM n ((d, v) :: l), h⟩ k) :
  A0 P md w ops (⟨some d, .load t x, ty, pos, af, none⟩ :: os) ⟨AM n l, h⟩ k := Fz (by simp only [BU, hx, TD, hp, OptP_some]; exact hk)
theorem H5 {O : List (Nat × AObj)} {i off j : Nat} {cs : List D} {v : D} (ok : OK h O) (hm : md d = 0) (hx : opL n l x = .ptr i off) (hj : O[j]? = some (i, .cells cs)) (hi : i ≠ 0) (hp : Ek P t (cs.drop off) = some v)
  (hk : A0 P md w ops os ⟨AM n ((d, v) :: l), Hp h O⟩ k) : A0 P md w ops (⟨some d, .load t x, ty, pos, af, none⟩ :: os) ⟨AM n l, Hp h O⟩ k := Fz (by
 simp only [BU, hx, hm, PE, Hu, Hp_get j ok hj hi, hp, OptP_some]; exact hk)
theorem Ov {O : List (Nat × AObj)} {i off j : Nat} {cs cs' : List D} {v : D} (ok : OK h O) (hx : opL n l x = .ptr i off) (hy : opL n l y = v) (hj : O[j]? = some (i, .cells cs)) (hi : i ≠ 0) (h1 : v.lay = true) (h2 : szD P t = some v.cells.length)
  (h3 : Nat.ble (off + v.cells.length) cs.length = true) (h4 : FL cs off v.cells = cs') (hk : OK h (O.set j (i, .cells cs')) -> A0 P md w ops os ⟨AM n l, Hp h (O.set j (i, .cells cs'))⟩ k) :
  A0 P md w ops (⟨none, .store t x y, ty, pos, af, none⟩ :: os) ⟨AM n l, Hp h O⟩ k := UG (by
 obtain ⟨e1, e2⟩ := Hp_set (y := .cells cs') j ok hj hi;subst hy h4;simp only [BU, hx, JR, Hp_get j ok hj hi]
 exact ⟨h1, h2, Nat.le_of_ble_eq_true h3, by rw [e1]; exact hk e2⟩)
theorem H2 {α : Type} {q r : Nat} {c : α -> List D} {L : List α} {K : IntKind} {i : Int} {e : TypeId} {f : α -> Option β} (hx : opL n l x = .sl q (L.map c) r) (hy : opL n l y = .int K i) (hs : slD P t = some e) (hq : szD P e = some q)
  (hF : OptP ((idx L i).bind f) G) (hk : ∀ a, idx L i = some a -> OptP (f a) G -> A0 P md w ops os ⟨AM n ((d, .iptr (c a)) :: l), h⟩ k) : A0 P md w ops (⟨some d, .indexAddr t x y, ty, pos, af, none⟩ :: os) ⟨AM n l, h⟩ k := Fz (by
 obtain ⟨a, ha, hF⟩ := By hF;have ha' := ha;unfold idx at ha';split at ha'
 ·rename_i h0;obtain ⟨hlt, he⟩ := List.getElem?_eq_some_iff.1 ha';have hlt' : i < (L.length : Int) := by omega
  have hg : (L.map c).getD i.toNat [] = c a := by simp [List.getD, ha']
  simp only [BU, hx, hy, N8, hs, ba, hq, List.length_map, h0, hlt', true_and, if_true, OptP_some, hg];exact hk a ha hF
 ·simp at ha')
theorem Wa {K : IntKind} {i : Int} {a : List By8} {f : By8 -> Option β} (hx : opL n l x = .str a) (hy : opL n l y = .int K i) (hs : stD P t = true)
  (hF : OptP ((idx a i).bind f) G) (hk : ∀ b, idx a i = some b -> OptP (f b) G -> A0 P md w ops os ⟨AM n ((d, .int .u8 (b.toNat : Int)) :: l), h⟩ k) : A0 P md w ops (⟨some d, .index t x y, ty, pos, af, none⟩ :: os) ⟨AM n l, h⟩ k := Fz (by
 obtain ⟨b, hb, hF⟩ := By hF;have ha' := hb;unfold idx at ha';split at ha'
 ·rename_i h0;obtain ⟨hlt, he⟩ := List.getElem?_eq_some_iff.1 ha';have hlt' : i < (a.length : Int) := by omega
  have hg : a.getD i.toNat 0 = b := by simp [List.getD, ha']
  simp only [BU, hx, hy, Qk, hs, h0, hlt', true_and, if_true, OptP_some, hg];exact hk b hb hF
 ·simp at ha')
theorem Kq {α : Type} {L : List α} {i j : Int} {a : List α} (h : slc L i j = some a) : (0 <= i /\ i <= j /\ j <= (L.length : Int)) /\ a = (L.drop i.toNat).take (j.toNat - i.toNat) := by
 unfold slc at h;split at h
 ·rename_i hc; injection h with h; exact ⟨hc, h.symm⟩
 ·simp at h
theorem Rh {a : List By8} {lo hi : Option Operand} {i j : Int} {f : List By8 -> Option β} (hx : opL n l x = .str a) (hs : stD P t = true) (h1 : B4 (lo.map (opL n l)) 0 = some i) (h2 : B4 (hi.map (opL n l)) a.length = some j)
  (hF : OptP ((slc a i j).bind f) G) (hk : ∀ b, slc a i j = some b -> OptP (f b) G -> A0 P md w ops os ⟨AM n ((d, .str b) :: l), h⟩ k) : A0 P md w ops (⟨some d, .slice t x lo hi none, ty, pos, af, none⟩ :: os) ⟨AM n l, h⟩ k := Fz (by
 obtain ⟨b, hb, hF⟩ := By hF;obtain ⟨hc, he⟩ := Kq hb;simp only [BU, hx, L4, hs, h1, h2, if_true, if_pos hc, OptP_some, <- he]
 exact hk b hb hF)
theorem Zg {α : Type} {q r : Nat} {c : α -> List D} {L : List α} {e : TypeId} {lo hi : Option Operand} {i j : Int} {f : List α -> Option β} (hx : opL n l x = .sl q (L.map c) r) (hs : slD P t = some e) (hq : szD P e = some q)
  (h1 : B4 (lo.map (opL n l)) 0 = some i) (h2 : B4 (hi.map (opL n l)) (L.map c).length = some j)
  (hF : OptP ((slc L i j).bind f) G) (hk : ∀ b, slc L i j = some b -> OptP (f b) G -> A0 P md w ops os ⟨AM n ((d, .sl q (b.map c) 0) :: l), h⟩ k) : A0 P md w ops (⟨some d, .slice t x lo hi none, ty, pos, af, none⟩ :: os) ⟨AM n l, h⟩ k := Fz (by
 obtain ⟨b, hb, hF⟩ := By hF;obtain ⟨hc, he⟩ := Kq hb;have hc' : 0 <= i /\ i <= j /\ j <= ((L.map c).length : Int) := by simpa using hc
 have e1 : ((L.map c).drop i.toNat).take (j.toNat - i.toNat) = b.map c := by rw [he, List.map_take, List.map_drop]
 simp only [BU, hx, M1, hs, ba, hq, h1, h2, if_true, if_pos hc', OptP_some, e1]
 exact hk b hb hF)
theorem Q3 {a : Nat} : B4 ((none : Option Operand).map (opL n l)) a = some (a : Int) := rfl
theorem Oo {a : Nat} {K : IntKind} {i : Int} (hy : opL n l y = .int K i) : B4 ((some y).map (opL n l)) a = some i := by
 simp only [Option.map_some, hy]; rfl
theorem WA {α : Type} {c : α -> List D} {L : List α} : B4 ((none : Option Operand).map (opL n l)) (L.map c).length = some (L.length : Int) := by
 simp [B4]
theorem Xo {O : List (Nat × AObj)} {v : D} {cs : List D} (ok : OK h O) (hm : md d = 1) (hx : opL n l x = v) (h1 : v.lay = true) (h2 : v.cells = cs)
  (hk : ∀ i, i ≠ 0 -> OK h ((i, .cells cs) :: O) -> A0 P md w ops os ⟨AM n ((d, .ptr i 0) :: l), Hp h ((i, .cells cs) :: O)⟩ k) : A0 P md w ops (⟨some d, .box t x, ty, pos, af, none⟩ :: os) ⟨AM n l, Hp h O⟩ k := Fz (by
 subst hx h2;simp only [BU, hm, Pn];refine ⟨h1, fun i hf hi => ?_⟩;obtain ⟨e1, e2⟩ := Hp_new (x := .cells (opL n l x).cells) ok hf hi
 rw [e1]; exact hk i hi e2)
theorem CR {v : D} {cs : List D} (hm : md d = 0) (hx : opL n l x = v) (h1 : v.lay = true) (h2 : v.cells = cs)
  (hk : A0 P md w ops os ⟨AM n ((d, .iptr cs) :: l), h⟩ k) : A0 P md w ops (⟨some d, .box t x, ty, pos, af, none⟩ :: os) ⟨AM n l, h⟩ k := Fz (by
 subst hx h2;simp only [BU, hm, UI]
 exact ⟨h1, hk⟩)
theorem Gk {O : List (Nat × AObj)} {cs : List D} (ok : OK h O) (hm : md d = 1) (hz : zcD P t = some cs)
  (hk : ∀ i, i ≠ 0 -> OK h ((i, .cells cs) :: O) -> A0 P md w ops os ⟨AM n ((d, .ptr i 0) :: l), Hp h ((i, .cells cs) :: O)⟩ k) : A0 P md w ops (⟨some d, .alloc t, ty, pos, af, none⟩ :: os) ⟨AM n l, Hp h O⟩ k := Fz (by
 simp only [BU, hm, hz, OptP_some, Pn];intro i hf hi;obtain ⟨e1, e2⟩ := Hp_new (x := .cells cs) ok hf hi
 rw [e1]; exact hk i hi e2)
theorem EC {ps : Array (Nat × Operand)} {v : D} (hb : IV P t (ps.toList.map fun p => (p.1, opL n l p.2)) = some v) (hk : A0 P md w ops os ⟨AM n ((d, v) :: l), h⟩ k) : A0 P md w ops (⟨some d, .build t ps, ty, pos, af, none⟩ :: os) ⟨AM n l, h⟩ k := Fz (by
 simp only [BU, hb, OptP_some]; exact hk)
theorem H3 {z cs : List D} {pl : List (Nat × Nat)} {parts : List (Nat × D)} (hz : zcD P t = some z) (hp : plD P t = some pl) (hf : Hd (fun i => pl[i]?) z parts = some cs) : IV P t parts = some (.agg cs) := by
 simp only [IV, hz, hp, hf]; rfl
theorem D5 {ps : Array (Nat × Operand)} {m q B : Nat} {zs cs : List D} {es : List (List D)} (hm : md d = 0) (he : elD P t = some (q, B, zs)) (hn : Nat.ble (m * q) 16777216 = true)
  (hf : Hd (fun i => some (i * q, q)) (List.replicate m zs).flatten (ps.toList.map fun p => (p.1, opL n l p.2)) = some cs) (hc : Dh q m cs = es)
  (hk : A0 P md w ops os ⟨AM n ((d, .sl q es 0) :: l), h⟩ k) : A0 P md w ops (⟨some d, .buildSlice t m ps, ty, pos, af, none⟩ :: os) ⟨AM n l, h⟩ k := Fz (by
 subst hc;simp only [BU, Vs, he, hm, hf, RE]
 exact ⟨Nat.le_of_ble_eq_true hn, hk⟩)
theorem YR {O : List (Nat × AObj)} {α : Type} {q r r2 j B : Nat} {zs : List D} {c : α -> List D} {L M : List α} {u : TypeId} {f : List α -> Option β} (ok : OK h O) (hm : md d = 2) (hx : opL n l x = .sl q (L.map c) r) (hy : opL n l y = .sl q (M.map c) r2)
  (hj : O[j]? = some (r, .room)) (hr : r ≠ 0) (he : elD P t = some (q, B, zs)) (hu : Ga P u = true) (hF : OptP ((app B L M).bind f) G)
  (hk : ∀ r', r' ≠ 0 -> OK h (O.set j (r', .room)) -> OptP (f (L ++ M)) G -> A0 P md w ops os ⟨AM n ((d, .sl q ((L ++ M).map c) r') :: l), Hp h (O.set j (r', .room))⟩ k) :
  A0 P md w ops (⟨some d, .call ⟨.builtin .append, #[x, y], #[t, u]⟩, ty, pos, af, none⟩ :: os) ⟨AM n l, Hp h O⟩ k := Fz (by
 obtain ⟨v, hv, hF⟩ := By hF;unfold app at hv;split at hv
 ·rename_i hc;injection hv with hv; subst hv
  simp only [BU, Fc, List.map_cons, List.map_nil, hx, hy, hm, FH, he, Pw, if_true, hu, true_and, List.length_map, Hp_get j ok hj hr, Rt];refine ⟨hc.1, hc.2, by decide, fun r' hf hr' => ?_⟩;obtain ⟨e1, e2⟩ := Hp_rel j ok hj hr;rw [e1];have hf' : Hp h (O.set j (0, .room)) r' = none := by
   rw [<- e1];by_cases e : r' = r
   ·subst e; exact Heap.upd_same ..
   ·rw [Heap.upd_ne _ _ e]; exact hf
  obtain ⟨hlt, _⟩ := List.getElem?_eq_some_iff.1 hj;obtain ⟨e3, e4⟩ := Hp_fill (x := .room) j e2 (by simp [hlt]) hr' hf';rw [e3, List.set_set] at *;rw [<- List.map_append];exact hk r' hr' e4 hF
 ·simp at hv)
theorem CallsA.arg {f : FuncId} {ds0 ds : List D} {h : Heap} {R : D -> Heap -> Prop} (hw : WdC ds0 ds) (c : CallsA P f ds h R) : CallsA P f ds0 h R :=
 c.imp (fun c => ⟨c.1, fun K w vs H hl hv => c.2 K w vs H (hl.trans hw.l) fun i => (hw.c i).rel (hv i)⟩) fun c K w vs H hl hv => c K w vs H (hl.trans hw.l) fun i => (hw.c i).rel (hv i)
theorem CallsA.ret {f : FuncId} {ds : List D} {h : Heap} {R : D -> Heap -> Prop} (c : CallsA P f ds h fun d h' => ∃ d2 h2, Wd d d2 /\ WH h' h2 /\ R d2 h2) : CallsA P f ds h R :=
 c.imp (fun c => ⟨c.1, fun K w vs H hl hv => (c.2 K w vs H hl hv).mono fun e w' ⟨v, d, K', h', a, b, cc, dd, d2, h2, w1, w2, r⟩ => ⟨v, d2, K', h2, a, b, cc.weaken w2, w1.rel dd, r⟩⟩)
  fun c K w vs H hl hv => let ⟨v, w', d, K', h', a, b, cc, dd, d2, h2, w1, w2, r⟩ := c K w vs H hl hv; ⟨v, w', d2, K', h2, a, b, cc.weaken w2, w1.rel dd, r⟩
theorem EX {g : FuncId} {args : Array Operand} {ts : Array TypeId} {ds : List D} (hc : CallsA P g ds h fun v h' => A0 P md w ops os ⟨AM n ((d, v) :: l), h'⟩ k) (hw : WdC (args.toList.map (opL n l)) ds) :
  A0 P md w ops (⟨some d, .call ⟨.value (.func g), args, ts⟩, ty, pos, af, none⟩ :: os) ⟨AM n l, h⟩ k := Fz (by
 have := hc.arg hw
 simpa only [BU, opL, List.nil_append, List.append_nil] using this)
theorem OK.wh {O : List (Nat × AObj)} (ok : OK h O) : WH (Hp h O) h := by
 have : ∀ O : List (Nat × AObj), WO O [] := fun O => by induction O with | nil => exact .nil | cons p O ih => exact .drop ih
 exact ((this O).spec ok).2.2
inductive RV (P : Program) (n : Nat) (l : List (Nat × D)) (h : Heap) : List ResultVar -> List D -> Prop
 | nil : RV P n l h [] []
 | tmp {t : Nat} {v : D} {rs : List ResultVar} {vs : List D} (hx : opL n l (.tmp t) = v) (r : RV P n l h rs vs) : RV P n l h (.tmp t :: rs) (v :: vs)
 | cell {a : Nat} {t : TypeId} {p v : D} {rs : List ResultVar} {vs : List D} (hx : opL n l (.tmp a) = p) (hl : JC P h t p = some v) (r : RV P n l h rs vs) : RV P n l h (.cell a t :: rs) (v :: vs)
theorem RV.spec : ∀ {rs : List ResultVar} {vs : List D}, RV P n l h rs vs -> rs.mapM (SQ P ⟨AM n l, h⟩) = some vs
 | _, _, .nil => rfl
 | _, _, .tmp (t := t) hx r => by
  have : (AM n l).getD t .any = opL n l (.tmp t) := congrFun (Hg n l) (.tmp t);simp only [List.mapM_cons, SQ, this, hx, r.spec]; rfl
 | _, _, .cell (a := a) hx hl r => by
  have : (AM n l).getD a .any = opL n l (.tmp a) := congrFun (Hg n l) (.tmp a);simp only [List.mapM_cons, SQ, this, hx, hl, r.spec]; rfl
theorem OI {fn : Func} {rs : List ResultVar} {vs : List D} {R : D -> Heap -> Prop} (hr : fn.results.toList = rs) (hv : RV P n l h rs vs) (hR : R (Pq vs) h) : RetP P fn R .ret ⟨AM n l, h⟩ := by
 show OptP (fn.results.toList.mapM (SQ P ⟨AM n l, h⟩)) fun l => R (Pq l) h;rw [hr, hv.spec, OptP_some]; exact hR
theorem Jn {fn : Func} {rs : List ResultVar} {vs : List D} {R : D -> Heap -> Prop} (hr : fn.results.toList = rs) (hv : RV P n l h rs vs) (hR : R (Pq vs) h) : RetP P fn R .normal ⟨AM n l, h⟩ := OI hr hv hR
def Uh : Nat -> List D -> List (Nat × D)
 | _, [] => []
 | i, d :: ds => (i, d) :: Uh (i + 1) ds
theorem Nk : ∀ (ds : List D) (i t : Nat), GD (Uh i ds) t = if i <= t then ds.getD (t - i) .any else .any
 | [], i, t => by simp [Uh, GD]
 | d :: ds, i, t => by
  show (match Nat.beq i t with | true => d | false => GD (Uh (i + 1) ds) t) = _
  cases hb : Nat.beq i t with
  | true => rw [Nat.beq_eq] at hb; subst hb; simp
  | false =>
   have hne : i ≠ t := fun e => by rw [e, Nat.beq_refl] at hb; simp at hb
   simp only [Nk ds (i + 1) t];by_cases h1 : i <= t
   ·have e : t - i = (t - (i + 1)) + 1 := by omega
    rw [if_pos h1, if_pos (by omega), e]; simp
   ·rw [if_neg h1, if_neg (by omega)]
theorem Tm (ds : List D) (m : Nat) : ds ++ List.replicate m .any = AM (ds.length + m) (Uh 0 ds) := by
 refine List.ext_getElem? fun j => ?_;by_cases hj : j < ds.length + m
 ·simp only [AM, List.getElem?_map, List.getElem?_range hj, Option.map_some, Nk];by_cases h1 : j < ds.length
  ·rw [List.getElem?_append_left h1]; simp [List.getD, h1]
  ·rw [List.getElem?_append_right (by omega), List.getElem?_replicate, if_pos (by omega)];simp [List.getD, h1]
 ·rw [List.getElem?_eq_none (by simp; omega), List.getElem?_eq_none (by simp [AM]; omega)]
theorem Bf {f : FuncId} {fn : Func} {c : Code} {args : List D} {h : Heap} {R : D -> Heap -> Prop} {N : Nat} (hf : P.funcs[f]? = some fn) (hb : fn.body = some c) (he : Dx P f = true) (hn : fn.ntmps = N) (ha : args.length + (N - args.length) = N)
  (hw : OK h [] -> WP P c (RetP P fn R) ⟨AM N (Uh 0 args), Hp h []⟩) : CallsA P f args h R := by
 refine CallsA_body hf hb he ?_;rw [hn, Tm, ha]; exact hw trivial
def Ac2 (n : Int) : List D := [.int .i8 n]
def Aa6 (n : Int) : List D := [.int .i16 n]
def Acn (n : Int) : List D := [.int .i32 n]
def P0 (n : Int) : List D := [.int .i64 n]
def Aca (n : Int) : List D := [.int .u16 n]
def Aa9 (n : Int) : List D := [.int .u32 n]
def Acf (n : Int) : List D := [.int .u64 n]
def Aaf (b : Bool) : List D := [.bool b]
def Ao (x : List By8) : List D := [.str x]
def Aba (n : Nat) : List D := [.float .f64 n]
def ZA (n : Nat × Nat) : List D := [.cplx .f64 n.1 n.2]
def Acz {α : Type} (q : Nat) (c : α -> List D) (l : List α) : List D := [.sl q (l.map c) 0]
def Ac0 (k : IntKind) (a b : Int) : Int := k.wrap ((BitVec.ofInt k.bits a &&& BitVec.ofInt k.bits b).toNat : Int)
def ior (k : IntKind) (a b : Int) : Int := k.wrap ((BitVec.ofInt k.bits a ||| BitVec.ofInt k.bits b).toNat : Int)
def Ac3 (k : IntKind) (a b : Int) : Int := k.wrap ((BitVec.ofInt k.bits a ^^^ BitVec.ofInt k.bits b).toNat : Int)
def X2 (k : IntKind) (a b : Int) : Int := k.wrap ((BitVec.ofInt k.bits a &&& ~~~(BitVec.ofInt k.bits b)).toNat : Int)
def Ac1 (k : IntKind) (a b : Int) : Int := k.wrap (a * 2 ^ (min b.toNat k.bits))
def SB (k : IntKind) (a b : Int) : Int := a.fdiv (2 ^ (min b.toNat k.bits))
def ngI (b : Int) : Option Int := if b < 0 then none else some b
theorem Ach {K : IntKind} {a b : Int} : EQ P h .or t (.int K a) (.int K b) = some (.int K (ior K a b)) := Zf ..
theorem Ab8 {dst : Option Nat} {op : Op} {s : St} (hk : A0 P md false ops [⟨dst, op, ty, pos, af, none⟩] s fun s' => A0 P md w ops os s' k) : Fg P N0 md ops ⟨dst, op, ty, pos, af, none⟩ s fun s' => A0 P md w ops os s' k := CC hk.2 fun _ h => h.2
theorem S7 {u e : TypeId} {a : List By8} (hm : md d = 0) (hx : opL n l x = .str a) (hs : slD P u = some e) (ht : stD P t = true) (he : kiD P e = some .u8) (hk : A0 P md w ops os ⟨AM n ((d, .sl 1 (a.map JN) 0) :: l), h⟩ k) :
  A0 P md w ops (⟨some d, .convert t u x, ty, pos, af, none⟩ :: os) ⟨AM n l, h⟩ k := Fz (by
 simp only [BU, hs, hx, Vv, ht, he, hm, true_and]
 exact ⟨fun h0 => absurd h0 (by decide), fun _ => hk⟩)
end
theorem Z5 {P : Program} {Q : Exit -> St -> Prop} {n : Nat} {l : List (Nat × D)} {h : Heap} {c : Operand} {x y : Code} {b : Bool} (hc : opL n l c = .bool b) (hb : b = true) (hT : WP P x Q ⟨AM n l, h⟩) : WP P (.cond c x y) Q ⟨AM n l, h⟩ := by
 refine MO ?_;show PS (opD (AM n l) c) _ _;rw [Hg, hc, hb]; exact hT
theorem Aae {P : Program} {Q : Exit -> St -> Prop} {n : Nat} {l : List (Nat × D)} {h : Heap} {c : Operand} {x y : Code} {b : Bool} (hc : opL n l c = .bool b) (hb : b = false) (hE : WP P y Q ⟨AM n l, h⟩) : WP P (.cond c x y) Q ⟨AM n l, h⟩ := by
 refine MO ?_;show PS (opD (AM n l) c) _ _;rw [Hg, hc, hb]; exact hE
theorem XD {P : Program} {md : Nat -> Nat} {w : Bool} {ops : Array Oper} {os : List Oper} {k : St -> Prop} {β : Type} {G : β -> Prop} {b : Bool} {X Y : Option β} {s : St} (hF : OptP (cond b X Y) G) (h1 : b = true -> OptP X G -> A0 P md w ops os s k)
  (h2 : b = false -> OptP Y G -> A0 P md w ops os s k) : A0 P md w ops os s k := by
 rcases Nh hF with ⟨hb, h⟩ | ⟨hb, h⟩
 ·exact h1 hb h
 ·exact h2 hb h
theorem Exit.sel_ret {A : St -> Prop} {Q : Exit -> St -> Prop} {s : St} (h : Q .ret s) : Exit.sel A Q .ret s := h
theorem Exit.blk_ret {i : Nat} {Q : Exit -> St -> Prop} {s : St} (h : Q .ret s) : Exit.blk i Q .ret s := h
end Go.Proofs.YtjofelloaofooaaGreatDoor
