/- One rule an operation, in step with a plain function. No condition. -/
import Derived.Test.YtmnbjcpikllknaaGreatDoorEng18
set_option linter.unusedSimpArgs false
set_option linter.unusedVariables false
namespace Go.Proofs.YtmnbjcpikllknaaGreatDoor
section
variable {P : Program} {md : Nat -> Nat} {w : Bool} {ops : Array Oper} {os : List Oper} {k : St -> Prop} {n : Nat} {l : List (Nat × D)} {h : Heap} {d : Nat} {t ty : TypeId} {pos : String} {af : Array Edge} {x y z : Operand}
variable {β : Type} {G : β -> Prop}
theorem FV {op : Op} (he : Ca P N0 (md d) op (opL n l) h fun v h' => AU P md w ops os ⟨AK n ((d, v) :: l), h'⟩ k) : AU P md w ops (⟨some d, op, ty, pos, af, none⟩ :: os) ⟨AK n l, h⟩ k := Pe (by
 simp only [F7, BS, FW, NO, Ia]
 exact he)
theorem YC {op : Op} (he : Ca P N0 0 op (opL n l) h fun v h' => AU P md w ops os ⟨AK n l, h'⟩ k) : AU P md w ops (⟨none, op, ty, pos, af, none⟩ :: os) ⟨AK n l, h⟩ k := Pe (by
 simp only [F7, BS, FW, Ia]
 exact he)
theorem S_m {v : D} (hx : opL n l x = v) (hk : AU P md w ops os ⟨AK n ((d, v) :: l), h⟩ k) : AU P md w ops (⟨some d, .move x, ty, pos, af, none⟩ :: os) ⟨AK n l, h⟩ k := FV (by subst hx; exact hk)
theorem S_a {v : D} (hx : opL n l x = v) (hk : AU P md w ops os ⟨AK n ((d, v) :: l), h⟩ k) : AU P md w ops (⟨some d, .assign x, ty, pos, af, none⟩ :: os) ⟨AK n l, h⟩ k := FV (by subst hx; exact hk)
theorem PE {a b : Operand} {v : D} {c : Bool} (hc : opL n l x = .bool c) (hb : c = true) (ha : opL n l a = v) (hk : AU P md w ops os ⟨AK n ((d, v) :: l), h⟩ k) : AU P md w ops (⟨some d, .pick x a b, ty, pos, af, none⟩ :: os) ⟨AK n l, h⟩ k :=
 FV (by subst hb ha; simp only [Ca, hc, if_true]; exact hk)
theorem Le {a b : Operand} {v : D} {c : Bool} (hc : opL n l x = .bool c) (hb : c = false) (ha : opL n l b = v) (hk : AU P md w ops os ⟨AK n ((d, v) :: l), h⟩ k) : AU P md w ops (⟨some d, .pick x a b, ty, pos, af, none⟩ :: os) ⟨AK n l, h⟩ k :=
 FV (by subst hb ha; simp only [Ca, hc]; exact hk)
theorem Dc {op : BinOp} {u : TypeId} {dx dy v : D} (hx : opL n l x = dx) (hy : opL n l y = dy) (hb : DY P h op t dx dy = some v) (hk : AU P md w ops os ⟨AK n ((d, v) :: l), h⟩ k) :
  AU P md w ops (⟨some d, .binOp op t x y u, ty, pos, af, none⟩ :: os) ⟨AK n l, h⟩ k := FV (by simp only [Ca, hx, hy, VW hb, OptP_some]; exact hk)
theorem Ady {op : UnOp} {dx v : D} (hx : opL n l x = dx) (hb : unD op dx = some v) (hk : AU P md w ops os ⟨AK n ((d, v) :: l), h⟩ k) :
  AU P md w ops (⟨some d, .unOp op t x, ty, pos, af, none⟩ :: os) ⟨AK n l, h⟩ k := FV (by simp only [Ca, hx, hb, OptP_some]; exact hk)
theorem MZ {u : TypeId} {dx v : D} (hx : opL n l x = dx) (hb : JT P h t u dx = some v) (hk : AU P md w ops os ⟨AK n ((d, v) :: l), h⟩ k) :
  AU P md w ops (⟨some d, .convert t u x, ty, pos, af, none⟩ :: os) ⟨AK n l, h⟩ k := FV (by
 simp only [Ca, hx];split
 ·rename_i el s hs;rw [PD] at hb;split at hb
  ·rename_i hc;have h1 := DR hc.1;simp [slD, h1] at hs
  ·simp at hb
 ·rename_i el k' id' off' n' hs;exfalso;simp only [JT] at hb;split at hb
  ·split at hb
   ·rename_i hc;have h1 := DR hc.2.1;simp [slD, h1] at hs
   ·simp at hb
  ·simp at hb
 ·rw [hb, OptP_some]; exact hk)
theorem JR {u : TypeId} {a b : List By8} {f : List By8 -> Option β} (hx : opL n l x = .str a) (hy : opL n l y = .str b) (hF : OptP ((cat a b).bind f) G)
  (hk : OptP (f (a ++ b)) G -> AU P md w ops os ⟨AK n ((d, .str (a ++ b)) :: l), h⟩ k) : AU P md w ops (⟨some d, .binOp .add t x y u, ty, pos, af, none⟩ :: os) ⟨AK n l, h⟩ k :=
 FV (by
  obtain ⟨v, hv, hF⟩ := Bs hF;unfold cat at hv;split at hv
  ·rename_i hc;injection hv with hv; subst hv
   simp only [Ca, hx, hy, LH, LP, O3, YD, if_pos hc, OptP_some]; exact hk hF
  ·simp at hv)
def nzI (b : Int) : Option Int := if b = 0 then none else some b
theorem Ad0 {u : TypeId} {K : IntKind} {a b : Int} {f : Int -> Option β} (hx : opL n l x = .int K a) (hy : opL n l y = .int K b) (hF : OptP ((nzI b).bind f) G)
  (hk : OptP (f b) G -> AU P md w ops os ⟨AK n ((d, .int K (a.tmod b)) :: l), h⟩ k) : AU P md w ops (⟨some d, .binOp .rem t x y u, ty, pos, af, none⟩ :: os) ⟨AK n l, h⟩ k :=
 FV (by
  obtain ⟨v, hv, hF⟩ := Bs hF;unfold nzI at hv;split at hv
  ·simp at hv
  ·rename_i hc;injection hv with hv; subst hv
   simp only [Ca, hx, hy, LH, LP, Acr, if_neg hc, OptP_some]; exact hk hF)
theorem ZE {a b : Bool} (hb : boD P t = true) : DY P h .neq t (.bool a) (.bool b) = some (.bool (!(a == b))) := by rw [PR, if_pos hb]
theorem ZH {a b : List By8} : DY P h .eql t (.str a) (.str b) = some (.bool (a == b)) := by rw [O3, XC]
theorem Acm {a b : List By8} : DY P h .neq t (.str a) (.str b) = some (.bool (!(a == b))) := by rw [O3, X3]
theorem Acv {a b : List By8} : DY P h .lss t (.str a) (.str b) = some (.bool (Op.bytesLess a b)) := by rw [O3, YA]
theorem Z3 {a b : List By8} : DY P h .gtr t (.str a) (.str b) = some (.bool (!(Op.bytesLess a b || a == b))) := by rw [O3, XX]
theorem RQ {xs ys : List D} {fs : List (Nat × TypeId)} {b : Bool} (h1 : P.eqGuardType P.depth t = false) (h2 : sfD P t = some fs) (h3 : Cx (eqD P h 9999) P xs ys fs = some b) : DY P h .eql t (.agg xs) (.agg ys) = some (.bool b) := by
 rw [Rq, if_pos h1, h2, ba, h3]; rfl
theorem WE {xs ys : List D} {fs : List (Nat × TypeId)} {b : Bool} (h1 : P.eqGuardType P.depth t = false) (h2 : sfD P t = some fs) (h3 : Cx (eqD P h 9999) P xs ys fs = some b) : DY P h .neq t (.agg xs) (.agg ys) = some (.bool !b) := by
 rw [Sl, if_pos h1, h2, ba, h3]; rfl
theorem Afh {s : TypeId} {K K' : IntKind} {a : Int} (hk : kiD P t = some K') (hs : (P.underlying s).isSome = true) : JT P h s t (.int K a) = some (.int K' (K'.wrap a)) := by
 rw [OM, hk]; simp only [hs, if_true]
theorem Ag9 {s : TypeId} {K : IntKind} {f : FloatKind} {a : Int} (hk : kiD P t = none) (hf : faD P t = some f) (hs : (P.underlying s).isSome = true) : JT P h s t (.int K a) = some (.float f (f.nearest a)) := by
 rw [OM, hk, hf]; simp only [hs, if_true]
def TS (b : By8) : List D := [.int .u8 b.toNat]
theorem E9 {α : Type} {q r : Nat} {c : α -> List D} {L : List α} {e : TypeId} (hx : opL n l x = .sl q (L.map c) r) (ht : slD P t = some e) (hk : AU P md w ops os ⟨AK n ((d, .int .i64 (L.length : Int)) :: l), h⟩ k) :
  AU P md w ops (⟨some d, .call ⟨.builtin .len, #[x], #[t]⟩, ty, pos, af, none⟩ :: os) ⟨AK n l, h⟩ k := FV (by
 simp only [Ca, En, List.map_cons, List.map_nil, hx, RF, ht, Option.isSome_some, if_true, OptP_some, List.length_map]; exact hk)
theorem WC {e : TypeId} (hx : opL n l x = .snil) (ht : slD P t = some e) (hk : AU P md w ops os ⟨AK n ((d, .int .i64 0) :: l), h⟩ k) :
  AU P md w ops (⟨some d, .call ⟨.builtin .len, #[x], #[t]⟩, ty, pos, af, none⟩ :: os) ⟨AK n l, h⟩ k := FV (by
 simp only [Ca, En, List.map_cons, List.map_nil, hx, RF, ht, Option.isSome_some, if_true, OptP_some]; exact hk)
theorem Aa8 {a : List By8} (hx : opL n l x = .str a) (ht : stD P t = true) (hk : AU P md w ops os ⟨AK n ((d, .int .i64 (a.length : Int)) :: l), h⟩ k) :
  AU P md w ops (⟨some d, .call ⟨.builtin .len, #[x], #[t]⟩, ty, pos, af, none⟩ :: os) ⟨AK n l, h⟩ k := FV (by
 simp only [Ca, En, List.map_cons, List.map_nil, hx, RF, ht, if_true, OptP_some]; exact hk)
theorem Ack {K K' : IntKind} {a b : Int} {ts : Array TypeId} (hx : opL n l x = .int K a) (hy : opL n l y = .int K' b) (hk : AU P md w ops os ⟨AK n ((d, .int K (if b < a then b else a)) :: l), h⟩ k) :
  AU P md w ops (⟨some d, .call ⟨.builtin .min, #[x, y], ts⟩, ty, pos, af, none⟩ :: os) ⟨AK n l, h⟩ k := FV (by
 simp only [Ca, List.map_cons, List.map_nil, hx, hy, Acj]; exact hk)
theorem Adw {K K' : IntKind} {a b : Int} {ts : Array TypeId} (hx : opL n l x = .int K a) (hy : opL n l y = .int K' b) (hk : AU P md w ops os ⟨AK n ((d, .int K (if b > a then b else a)) :: l), h⟩ k) :
  AU P md w ops (⟨some d, .call ⟨.builtin .max, #[x, y], ts⟩, ty, pos, af, none⟩ :: os) ⟨AK n l, h⟩ k := FV (by
 simp only [Ca, List.map_cons, List.map_nil, hx, hy, Aa4]; exact hk)
theorem Afu {ds : List D} {i : Nat} {v : D} (hx : opL n l x = .tup ds) (hv : Vv i (.tup ds) = some v) (hk : AU P md w ops os ⟨AK n ((d, v) :: l), h⟩ k) :
  AU P md w ops (⟨some d, .extract x i, ty, pos, af, none⟩ :: os) ⟨AK n l, h⟩ k := FV (by simp only [Ca, hx, hv, OptP_some]; exact hk)
theorem Wr {v : D} (hx : opL n l x = v) (hv : Abv v = some v) (hk : AU P md w ops os ⟨AK n ((d, v) :: l), h⟩ k) :
  AU P md w ops (⟨some d, .nilCheck x, ty, pos, af, none⟩ :: os) ⟨AK n l, h⟩ k := FV (by simp only [Ca, hx, hv, OptP_some]; exact hk)
theorem BC {cs : List D} {f o : Nat} {ft : TypeId} {m : Nat} (hx : opL n l x = .iptr cs) (hf : fdD P t f = some (o, ft)) (hs : szD P ft = some (m + 1)) (ho : Nat.ble o cs.length = true) (hk : AU P md w ops os ⟨AK n ((d, .iptr (cs.drop o)) :: l), h⟩ k) :
  AU P md w ops (⟨some d, .fieldAddr t x f, ty, pos, af, none⟩ :: os) ⟨AK n l, h⟩ k := FV (by
 have ho' : o <= cs.length := Nat.le_of_ble_eq_true ho
 simp only [Ca, hx, Yw, hf, hs, Tt, ho', if_true]; exact ⟨_, by simp, hk⟩)
theorem C3 {i off : Nat} {f o : Nat} {ft : TypeId} {m : Nat} (hx : opL n l x = .ptr i off) (hf : fdD P t f = some (o, ft)) (hs : szD P ft = some (m + 1)) (hk : AU P md w ops os ⟨AK n ((d, .ptr i (off + o)) :: l), h⟩ k) :
  AU P md w ops (⟨some d, .fieldAddr t x f, ty, pos, af, none⟩ :: os) ⟨AK n l, h⟩ k := FV (by
 simp only [Ca, hx, Yf, hf, hs, Tt]; exact ⟨_, by simp, hk⟩)
theorem Be {cs ds : List D} {v : D} {m : Nat} (ha : agD P t = some false) (hs : szD P t = some m) (he : cs = v :: ds) : Ep P t cs = some v := by
 subst he; simp only [Ep, ha, hs]
theorem Bc {cs vs : List D} {m : Nat} (ha : agD P t = some true) (hs : szD P t = some m) (hl : Nat.ble m cs.length = true) (he : cs.take m = vs) : Ep P t cs = some (.agg vs) := by
 simp only [Ep, ha, hs, if_pos (Nat.le_of_ble_eq_true hl), he]
theorem A2 {cs : List D} {v : D} (hx : opL n l x = .iptr cs) (hp : Ep P t cs = some v) (hk : AU P md w ops os ⟨AK n ((d, v) :: l), h⟩ k) :
  AU P md w ops (⟨some d, .load t x, ty, pos, af, none⟩ :: os) ⟨AK n l, h⟩ k := FV (by simp only [Ca, hx, Yk, hp, OptP_some]; exact hk)
theorem B6 {O : List (Nat × AObj)} {i off j : Nat} {cs : List D} {v : D} (ok : OK h O) (hm : md d = 0) (hx : opL n l x = .ptr i off) (hj : O[j]? = some (i, .cells cs)) (hi : i ≠ 0) (hp : Ep P t (cs.drop off) = some v)
  (hk : AU P md w ops os ⟨AK n ((d, v) :: l), Hp h O⟩ k) : AU P md w ops (⟨some d, .load t x, ty, pos, af, none⟩ :: os) ⟨AK n l, Hp h O⟩ k := FV (by
 simp only [Ca, hx, hm, WJ, IS, Hp_get j ok hj hi, hp, OptP_some]; exact hk)
theorem FU {O : List (Nat × AObj)} {i off j : Nat} {cs cs' : List D} {v : D} (ok : OK h O) (hx : opL n l x = .ptr i off) (hy : opL n l y = v) (hj : O[j]? = some (i, .cells cs)) (hi : i ≠ 0) (h1 : v.lay = true) (h2 : szD P t = some v.cells.length)
  (h3 : Nat.ble (off + v.cells.length) cs.length = true) (h4 : Gn cs off v.cells = cs') (hk : OK h (O.set j (i, .cells cs')) -> AU P md w ops os ⟨AK n l, Hp h (O.set j (i, .cells cs'))⟩ k) :
  AU P md w ops (⟨none, .store t x y, ty, pos, af, none⟩ :: os) ⟨AK n l, Hp h O⟩ k := YC (by
 obtain ⟨e1, e2⟩ := Hp_set (y := .cells cs') j ok hj hi;subst hy h4;simp only [Ca, hx, Ni, Hp_get j ok hj hi]
 exact ⟨h1, h2, Nat.le_of_ble_eq_true h3, by rw [e1]; exact hk e2⟩)
theorem F2 {α : Type} {q r : Nat} {c : α -> List D} {L : List α} {K : IntKind} {i : Int} {e : TypeId} {f : α -> Option β} (hx : opL n l x = .sl q (L.map c) r) (hy : opL n l y = .int K i) (hs : slD P t = some e) (hq : szD P e = some q)
  (hF : OptP ((idx L i).bind f) G) (hk : ∀ a, idx L i = some a -> OptP (f a) G -> AU P md w ops os ⟨AK n ((d, .iptr (c a)) :: l), h⟩ k) : AU P md w ops (⟨some d, .indexAddr t x y, ty, pos, af, none⟩ :: os) ⟨AK n l, h⟩ k := FV (by
 obtain ⟨a, ha, hF⟩ := Bs hF;have ha' := ha;unfold idx at ha';split at ha'
 ·rename_i h0;obtain ⟨hlt, he⟩ := List.getElem?_eq_some_iff.1 ha';have hlt' : i < (L.length : Int) := by omega
  have hg : (L.map c).getD i.toNat [] = c a := by simp [List.getD, ha']
  simp only [Ca, hx, hy, QQ, hs, ba, hq, List.length_map, h0, hlt', true_and, if_true, OptP_some, hg];exact hk a ha hF
 ·simp at ha')
theorem I1 {K : IntKind} {i : Int} {a : List By8} {f : By8 -> Option β} (hx : opL n l x = .str a) (hy : opL n l y = .int K i) (hs : stD P t = true)
  (hF : OptP ((idx a i).bind f) G) (hk : ∀ b, idx a i = some b -> OptP (f b) G -> AU P md w ops os ⟨AK n ((d, .int .u8 (b.toNat : Int)) :: l), h⟩ k) : AU P md w ops (⟨some d, .index t x y, ty, pos, af, none⟩ :: os) ⟨AK n l, h⟩ k := FV (by
 obtain ⟨b, hb, hF⟩ := Bs hF;have ha' := hb;unfold idx at ha';split at ha'
 ·rename_i h0;obtain ⟨hlt, he⟩ := List.getElem?_eq_some_iff.1 ha';have hlt' : i < (a.length : Int) := by omega
  have hg : a.getD i.toNat 0 = b := by simp [List.getD, ha']
  simp only [Ca, hx, hy, UJ, hs, h0, hlt', true_and, if_true, OptP_some, hg];exact hk b hb hF
 ·simp at ha')
theorem NC {α : Type} {L : List α} {i j : Int} {a : List α} (h : slc L i j = some a) : (0 <= i /\ i <= j /\ j <= (L.length : Int)) /\ a = (L.drop i.toNat).take (j.toNat - i.toNat) := by
 unfold slc at h;split at h
 ·rename_i hc; injection h with h; exact ⟨hc, h.symm⟩
 ·simp at h
theorem JB {a : List By8} {lo hi : Option Operand} {i j : Int} {f : List By8 -> Option β} (hx : opL n l x = .str a) (hs : stD P t = true) (h1 : Cp (lo.map (opL n l)) 0 = some i) (h2 : Cp (hi.map (opL n l)) a.length = some j)
  (hF : OptP ((slc a i j).bind f) G) (hk : ∀ b, slc a i j = some b -> OptP (f b) G -> AU P md w ops os ⟨AK n ((d, .str b) :: l), h⟩ k) : AU P md w ops (⟨some d, .slice t x lo hi none, ty, pos, af, none⟩ :: os) ⟨AK n l, h⟩ k := FV (by
 obtain ⟨b, hb, hF⟩ := Bs hF;obtain ⟨hc, he⟩ := NC hb;simp only [Ca, hx, Pf, hs, h1, h2, if_true, if_pos hc, OptP_some, <- he]
 exact hk b hb hF)
theorem Ac0 {α : Type} {q r : Nat} {c : α -> List D} {L : List α} {e : TypeId} {lo hi : Option Operand} {i j : Int} {f : List α -> Option β} (hx : opL n l x = .sl q (L.map c) r) (hs : slD P t = some e) (hq : szD P e = some q)
  (h1 : Cp (lo.map (opL n l)) 0 = some i) (h2 : Cp (hi.map (opL n l)) (L.map c).length = some j)
  (hF : OptP ((slc L i j).bind f) G) (hk : ∀ b, slc L i j = some b -> OptP (f b) G -> AU P md w ops os ⟨AK n ((d, .sl q (b.map c) 0) :: l), h⟩ k) : AU P md w ops (⟨some d, .slice t x lo hi none, ty, pos, af, none⟩ :: os) ⟨AK n l, h⟩ k := FV (by
 obtain ⟨b, hb, hF⟩ := Bs hF;obtain ⟨hc, he⟩ := NC hb;have hc' : 0 <= i /\ i <= j /\ j <= ((L.map c).length : Int) := by simpa using hc
 have e1 : ((L.map c).drop i.toNat).take (j.toNat - i.toNat) = b.map c := by rw [he, List.map_take, List.map_drop]
 simp only [Ca, hx, Qg, hs, ba, hq, h1, h2, if_true, if_pos hc', OptP_some, e1]
 exact hk b hb hF)
theorem NB {a : Nat} : Cp ((none : Option Operand).map (opL n l)) a = some (a : Int) := rfl
theorem FN {a : Nat} {K : IntKind} {i : Int} (hy : opL n l y = .int K i) : Cp ((some y).map (opL n l)) a = some i := by
 simp only [Option.map_some, hy]; rfl
theorem Acs {α : Type} {c : α -> List D} {L : List α} : Cp ((none : Option Operand).map (opL n l)) (L.map c).length = some (L.length : Int) := by
 simp [Cp]
theorem OO {O : List (Nat × AObj)} {v : D} {cs : List D} (ok : OK h O) (hm : md d = 1) (hx : opL n l x = v) (h1 : v.lay = true) (h2 : v.cells = cs)
  (hk : ∀ i, i ≠ 0 -> OK h ((i, .cells cs) :: O) -> AU P md w ops os ⟨AK n ((d, .ptr i 0) :: l), Hp h ((i, .cells cs) :: O)⟩ k) : AU P md w ops (⟨some d, .box t x, ty, pos, af, none⟩ :: os) ⟨AK n l, Hp h O⟩ k := FV (by
 subst hx h2;simp only [Ca, hm, Ub];refine ⟨h1, fun i hf hi => ?_⟩;obtain ⟨e1, e2⟩ := Hp_new (x := .cells (opL n l x).cells) ok hf hi
 rw [e1]; exact hk i hi e2)
theorem Co {v : D} {cs : List D} (hm : md d = 0) (hx : opL n l x = v) (h1 : v.lay = true) (h2 : v.cells = cs)
  (hk : AU P md w ops os ⟨AK n ((d, .iptr cs) :: l), h⟩ k) : AU P md w ops (⟨some d, .box t x, ty, pos, af, none⟩ :: os) ⟨AK n l, h⟩ k := FV (by
 subst hx h2;simp only [Ca, hm, XJ]
 exact ⟨h1, hk⟩)
theorem B3 {O : List (Nat × AObj)} {cs : List D} (ok : OK h O) (hm : md d = 1) (hz : zcD P t = some cs)
  (hk : ∀ i, i ≠ 0 -> OK h ((i, .cells cs) :: O) -> AU P md w ops os ⟨AK n ((d, .ptr i 0) :: l), Hp h ((i, .cells cs) :: O)⟩ k) : AU P md w ops (⟨some d, .alloc t, ty, pos, af, none⟩ :: os) ⟨AK n l, Hp h O⟩ k := FV (by
 simp only [Ca, hm, hz, OptP_some, Ub];intro i hf hi;obtain ⟨e1, e2⟩ := Hp_new (x := .cells cs) ok hf hi
 rw [e1]; exact hk i hi e2)
theorem C6 {ps : Array (Nat × Operand)} {v : D} (hb : Mb P t (ps.toList.map fun p => (p.1, opL n l p.2)) = some v) (hk : AU P md w ops os ⟨AK n ((d, v) :: l), h⟩ k) : AU P md w ops (⟨some d, .build t ps, ty, pos, af, none⟩ :: os) ⟨AK n l, h⟩ k := FV (by
 simp only [Ca, hb, OptP_some]; exact hk)
theorem Gw {z cs : List D} {pl : List (Nat × Nat)} {parts : List (Nat × D)} (hz : zcD P t = some z) (hp : plD P t = some pl) (hf : Ho (fun i => pl[i]?) z parts = some cs) : Mb P t parts = some (.agg cs) := by
 simp only [Mb, hz, hp, hf]; rfl
theorem WN {O : List (Nat × AObj)} {ps : Array (Nat × Operand)} {m q B : Nat} {zs cs : List D} {es : List (List D)} (ok : OK h O) (hm : md d = 2) (he : elD P t = some (q, B, zs)) (hn : Nat.ble (m * q) 16777216 = true)
  (hf : Ho (fun i => some (i * q, q)) (List.replicate m zs).flatten (ps.toList.map fun p => (p.1, opL n l p.2)) = some cs) (hc : C7 q m cs = es)
  (hk : ∀ r, r ≠ 0 -> OK h ((r, .room) :: O) -> AU P md w ops os ⟨AK n ((d, .sl q es r) :: l), Hp h ((r, .room) :: O)⟩ k) : AU P md w ops (⟨some d, .buildSlice t m ps, ty, pos, af, none⟩ :: os) ⟨AK n l, Hp h O⟩ k := FV (by
 subst hc;simp only [Ca, Xi, he, hm, hf, QT];refine ⟨Nat.le_of_ble_eq_true hn, fun r hfr hr => ?_⟩;obtain ⟨e1, e2⟩ := Hp_new (x := .room) ok hfr hr
 rw [e1]; exact hk r hr e2)
theorem CD {ps : Array (Nat × Operand)} {m q B : Nat} {zs cs : List D} {es : List (List D)} (hm : md d = 0) (he : elD P t = some (q, B, zs)) (hn : Nat.ble (m * q) 16777216 = true)
  (hf : Ho (fun i => some (i * q, q)) (List.replicate m zs).flatten (ps.toList.map fun p => (p.1, opL n l p.2)) = some cs) (hc : C7 q m cs = es)
  (hk : AU P md w ops os ⟨AK n ((d, .sl q es 0) :: l), h⟩ k) : AU P md w ops (⟨some d, .buildSlice t m ps, ty, pos, af, none⟩ :: os) ⟨AK n l, h⟩ k := FV (by
 subst hc;simp only [Ca, Xi, he, hm, hf, Vx]
 exact ⟨Nat.le_of_ble_eq_true hn, hk⟩)
theorem F4 {O : List (Nat × AObj)} {α : Type} {q r r2 j B : Nat} {zs : List D} {c : α -> List D} {L M : List α} {u : TypeId} {f : List α -> Option β} (ok : OK h O) (hm : md d = 2) (hx : opL n l x = .sl q (L.map c) r) (hy : opL n l y = .sl q (M.map c) r2)
  (hj : O[j]? = some (r, .room)) (hr : r ≠ 0) (he : elD P t = some (q, B, zs)) (hu : Dz P u = true) (hF : OptP ((app B L M).bind f) G)
  (hk : ∀ r', r' ≠ 0 -> OK h (O.set j (r', .room)) -> OptP (f (L ++ M)) G -> AU P md w ops os ⟨AK n ((d, .sl q ((L ++ M).map c) r') :: l), Hp h (O.set j (r', .room))⟩ k) :
  AU P md w ops (⟨some d, .call ⟨.builtin .append, #[x, y], #[t, u]⟩, ty, pos, af, none⟩ :: os) ⟨AK n l, Hp h O⟩ k := FV (by
 obtain ⟨v, hv, hF⟩ := Bs hF;unfold app at hv;split at hv
 ·rename_i hc;injection hv with hv; subst hv
  simp only [Ca, En, List.map_cons, List.map_nil, hx, hy, hm, FZ, he, P5, if_true, hu, true_and, List.length_map, Hp_get j ok hj hr, QT];refine ⟨hc.1, hc.2, by decide, fun r' hf hr' => ?_⟩;obtain ⟨e1, e2⟩ := Hp_rel j ok hj hr;rw [e1];have hf' : Hp h (O.set j (0, .room)) r' = none := by
   rw [<- e1];by_cases e : r' = r
   ·subst e; exact Heap.upd_same ..
   ·rw [Heap.upd_ne _ _ e]; exact hf
  obtain ⟨hlt, _⟩ := List.getElem?_eq_some_iff.1 hj;obtain ⟨e3, e4⟩ := Hp_fill (x := .room) j e2 (by simp [hlt]) hr' hf';rw [e3, List.set_set] at *;rw [<- List.map_append];exact hk r' hr' e4 hF
 ·simp at hv)
theorem CallsA.arg {f : FuncId} {ds0 ds : List D} {h : Heap} {R : D -> Heap -> Prop} (hw : WdC ds0 ds) (c : CallsA P f ds h R) : CallsA P f ds0 h R :=
 c.imp (fun c => ⟨c.1, fun K w vs H hl hv => c.2 K w vs H (hl.trans hw.l) fun i => (hw.c i).rel (hv i)⟩) fun c K w vs H hl hv => c K w vs H (hl.trans hw.l) fun i => (hw.c i).rel (hv i)
theorem CallsA.ret {f : FuncId} {ds : List D} {h : Heap} {R : D -> Heap -> Prop} (c : CallsA P f ds h fun d h' => ∃ d2 h2, Wd d d2 /\ WH h' h2 /\ R d2 h2) : CallsA P f ds h R :=
 c.imp (fun c => ⟨c.1, fun K w vs H hl hv => (c.2 K w vs H hl hv).mono fun e w' ⟨v, d, K', h', a, b, cc, dd, d2, h2, w1, w2, r⟩ => ⟨v, d2, K', h2, a, b, cc.weaken w2, w1.rel dd, r⟩⟩)
  fun c K w vs H hl hv => let ⟨v, w', d, K', h', a, b, cc, dd, d2, h2, w1, w2, r⟩ := c K w vs H hl hv; ⟨v, w', d2, K', h2, a, b, cc.weaken w2, w1.rel dd, r⟩
theorem QD {g : FuncId} {args : Array Operand} {ts : Array TypeId} {ds : List D} (hc : CallsA P g ds h fun v h' => AU P md w ops os ⟨AK n ((d, v) :: l), h'⟩ k) (hw : WdC (args.toList.map (opL n l)) ds) :
  AU P md w ops (⟨some d, .call ⟨.value (.func g), args, ts⟩, ty, pos, af, none⟩ :: os) ⟨AK n l, h⟩ k := FV (by
 have := hc.arg hw
 simpa only [Ca, opL, List.nil_append, List.append_nil] using this)
theorem OK.wh {O : List (Nat × AObj)} (ok : OK h O) : WH (Hp h O) h := by
 have : ∀ O : List (Nat × AObj), WO O [] := fun O => by induction O with | nil => exact .nil | cons p O ih => exact .drop ih
 exact ((this O).spec ok).2.2
inductive RV (P : Program) (n : Nat) (l : List (Nat × D)) (h : Heap) : List ResultVar -> List D -> Prop
 | nil : RV P n l h [] []
 | tmp {t : Nat} {v : D} {rs : List ResultVar} {vs : List D} (hx : opL n l (.tmp t) = v) (r : RV P n l h rs vs) : RV P n l h (.tmp t :: rs) (v :: vs)
 | cell {a : Nat} {t : TypeId} {p v : D} {rs : List ResultVar} {vs : List D} (hx : opL n l (.tmp a) = p) (hl : L7 P h t p = some v) (r : RV P n l h rs vs) : RV P n l h (.cell a t :: rs) (v :: vs)
theorem RV.spec : ∀ {rs : List ResultVar} {vs : List D}, RV P n l h rs vs -> rs.mapM (WA P ⟨AK n l, h⟩) = some vs
 | _, _, .nil => rfl
 | _, _, .tmp (t := t) hx r => by
  have : (AK n l).getD t .any = opL n l (.tmp t) := congrFun (Ia n l) (.tmp t);simp only [List.mapM_cons, WA, this, hx, r.spec]; rfl
 | _, _, .cell (a := a) hx hl r => by
  have : (AK n l).getD a .any = opL n l (.tmp a) := congrFun (Ia n l) (.tmp a);simp only [List.mapM_cons, WA, this, hx, hl, r.spec]; rfl
theorem CZ {O : List (Nat × AObj)} {i off j : Nat} {cs : List D} {v : D} (ok : OK h O) (hj : O[j]? = some (i, .cells cs)) (hi : i ≠ 0) (hp : Ep P t (cs.drop off) = some v) : L7 P (Hp h O) t (.ptr i off) = some v := by
 rw [IS, Hp_get j ok hj hi]; exact hp
theorem HP {fn : Func} {rs : List ResultVar} {vs : List D} {R : D -> Heap -> Prop} (hr : fn.results.toList = rs) (hv : RV P n l h rs vs) (hR : R (Sd vs) h) : RetP P fn R .ret ⟨AK n l, h⟩ := by
 show OptP (fn.results.toList.mapM (WA P ⟨AK n l, h⟩)) fun l => R (Sd l) h;rw [hr, hv.spec, OptP_some]; exact hR
def Sm : Nat -> List D -> List (Nat × D)
 | _, [] => []
 | i, d :: ds => (i, d) :: Sm (i + 1) ds
theorem Rc : ∀ (ds : List D) (i t : Nat), GA (Sm i ds) t = if i <= t then ds.getD (t - i) .any else .any
 | [], i, t => by simp [Sm, GA]
 | d :: ds, i, t => by
  show (match Nat.beq i t with | true => d | false => GA (Sm (i + 1) ds) t) = _
  cases hb : Nat.beq i t with
  | true => rw [Nat.beq_eq] at hb; subst hb; simp
  | false =>
   have hne : i ≠ t := fun e => by rw [e, Nat.beq_refl] at hb; simp at hb
   simp only [Rc ds (i + 1) t];by_cases h1 : i <= t
   ·have e : t - i = (t - (i + 1)) + 1 := by omega
    rw [if_pos h1, if_pos (by omega), e]; simp
   ·rw [if_neg h1, if_neg (by omega)]
theorem QH (ds : List D) (m : Nat) : ds ++ List.replicate m .any = AK (ds.length + m) (Sm 0 ds) := by
 refine List.ext_getElem? fun j => ?_;by_cases hj : j < ds.length + m
 ·simp only [AK, List.getElem?_map, List.getElem?_range hj, Option.map_some, Rc];by_cases h1 : j < ds.length
  ·rw [List.getElem?_append_left h1]; simp [List.getD, h1]
  ·rw [List.getElem?_append_right (by omega), List.getElem?_replicate, if_pos (by omega)];simp [List.getD, h1]
 ·rw [List.getElem?_eq_none (by simp; omega), List.getElem?_eq_none (by simp [AK]; omega)]
theorem Bb {f : FuncId} {fn : Func} {c : Code} {args : List D} {h : Heap} {R : D -> Heap -> Prop} {N : Nat} (hf : P.funcs[f]? = some fn) (hb : fn.body = some c) (he : Cq P f = true) (hn : fn.ntmps = N) (ha : args.length + (N - args.length) = N)
  (hw : OK h [] -> WP P c (RetP P fn R) ⟨AK N (Sm 0 args), Hp h []⟩) : CallsA P f args h R := by
 refine CallsA_body hf hb he ?_;rw [hn, QH, ha]; exact hw trivial
def Ahx (n : Int) : List D := [.int .i8 n]
def Ahc (n : Int) : List D := [.int .i16 n]
def Aha (n : Int) : List D := [.int .i32 n]
def CH (n : Int) : List D := [.int .i64 n]
def Agr (n : Int) : List D := [.int .u16 n]
def Agz (n : Int) : List D := [.int .u32 n]
def Ag3 (n : Int) : List D := [.int .u64 n]
def Agd (b : Bool) : List D := [.bool b]
def Ag4 (x : List By8) : List D := [.str x]
def Ahl (n : Nat) : List D := [.float .f64 n]
def FT (n : Nat × Nat) : List D := [.cplx .f64 n.1 n.2]
def Ahq {α : Type} (q : Nat) (c : α -> List D) (l : List α) : List D := [.sl q (l.map c) 0]
def Ahv (k : IntKind) (a b : Int) : Int := k.wrap ((BitVec.ofInt k.bits a &&& BitVec.ofInt k.bits b).toNat : Int)
def ior (k : IntKind) (a b : Int) : Int := k.wrap ((BitVec.ofInt k.bits a ||| BitVec.ofInt k.bits b).toNat : Int)
def Ahw (k : IntKind) (a b : Int) : Int := k.wrap ((BitVec.ofInt k.bits a ^^^ BitVec.ofInt k.bits b).toNat : Int)
def Ti (k : IntKind) (a b : Int) : Int := k.wrap ((BitVec.ofInt k.bits a &&& ~~~(BitVec.ofInt k.bits b)).toNat : Int)
def Ahy (k : IntKind) (a b : Int) : Int := k.wrap (a * 2 ^ (min b.toNat k.bits))
def Ahr (k : IntKind) (a b : Int) : Int := a.fdiv (2 ^ (min b.toNat k.bits))
def ngI (b : Int) : Option Int := if b < 0 then none else some b
theorem Ag6 {K : IntKind} {a b : Int} : DY P h .or t (.int K a) (.int K b) = some (.int K (ior K a b)) := Aeu ..
theorem VY {K : IntKind} {a b : Int} : DY P h .andNot t (.int K a) (.int K b) = some (.int K (Ti K a b)) := S6 ..
theorem Ahn {dst : Option Nat} {op : Op} {s : St} (hk : AU P md false ops [⟨dst, op, ty, pos, af, none⟩] s fun s' => AU P md w ops os s' k) : F7 P N0 md ops ⟨dst, op, ty, pos, af, none⟩ s fun s' => AU P md w ops os s' k := CC hk.2 fun _ h => h.2
theorem Xm {u e : TypeId} {a : List By8} (hm : md d = 0) (hx : opL n l x = .str a) (hs : slD P u = some e) (ht : stD P t = true) (he : kiD P e = some .u8) (hk : AU P md w ops os ⟨AK n ((d, .sl 1 (a.map TS) 0) :: l), h⟩ k) :
  AU P md w ops (⟨some d, .convert t u x, ty, pos, af, none⟩ :: os) ⟨AK n l, h⟩ k := FV (by
 simp only [Ca, hs, hx, Zc, ht, he, hm, true_and]
 exact ⟨fun h0 => absurd h0 (by decide), fun _ => hk⟩)
end
theorem Adp {P : Program} {Q : Exit -> St -> Prop} {n : Nat} {l : List (Nat × D)} {h : Heap} {c : Operand} {x y : Code} {b : Bool} (hc : opL n l c = .bool b) (hb : b = true) (hT : WP P x Q ⟨AK n l, h⟩) : WP P (.cond c x y) Q ⟨AK n l, h⟩ := by
 refine PK ?_;show TP (opD (AK n l) c) _ _;rw [Ia, hc, hb]; exact hT
theorem Adf {P : Program} {Q : Exit -> St -> Prop} {n : Nat} {l : List (Nat × D)} {h : Heap} {c : Operand} {x y : Code} {b : Bool} (hc : opL n l c = .bool b) (hb : b = false) (hE : WP P y Q ⟨AK n l, h⟩) : WP P (.cond c x y) Q ⟨AK n l, h⟩ := by
 refine PK ?_;show TP (opD (AK n l) c) _ _;rw [Ia, hc, hb]; exact hE
theorem Rg {P : Program} {md : Nat -> Nat} {w : Bool} {ops : Array Oper} {os : List Oper} {k : St -> Prop} {β : Type} {G : β -> Prop} {b : Bool} {X Y : Option β} {s : St} (hF : OptP (cond b X Y) G) (h1 : b = true -> OptP X G -> AU P md w ops os s k)
  (h2 : b = false -> OptP Y G -> AU P md w ops os s k) : AU P md w ops os s k := by
 rcases Q2 hF with ⟨hb, h⟩ | ⟨hb, h⟩
 ·exact h1 hb h
 ·exact h2 hb h
theorem Exit.sel_ret {A : St -> Prop} {Q : Exit -> St -> Prop} {s : St} (h : Q .ret s) : Exit.sel A Q .ret s := h
theorem Exit.blk_ret {i : Nat} {Q : Exit -> St -> Prop} {s : St} (h : Q .ret s) : Exit.blk i Q .ret s := h
end Go.Proofs.YtmnbjcpikllknaaGreatDoor
