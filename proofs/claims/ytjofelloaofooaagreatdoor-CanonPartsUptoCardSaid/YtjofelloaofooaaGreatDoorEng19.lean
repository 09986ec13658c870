/- One rule an operation, in step with a plain function. No condition. -/
import Derived.Test.YtjofelloaofooaaGreatDoorEng18
set_option linter.unusedSimpArgs false
set_option linter.unusedVariables false
namespace Go.Proofs.YtjofelloaofooaaGreatDoor
section
variable {P : Program} {md : Nat -> Nat} {w : Bool} {ops : Array Oper} {os : List Oper} {k : St -> Prop} {n : Nat} {l : List (Nat × D)} {h : Heap} {d : Nat} {t ty : TypeId} {pos : String} {af : Array Edge} {x y z : Operand}
variable {β : Type} {G : β -> Prop}
theorem E4 {op : Op} (he : BB P N0 (md d) op (opL n l) h fun v h' => AO P md w ops os ⟨AH n ((d, v) :: l), h'⟩ k) : AO P md w ops (⟨some d, op, ty, pos, af, none⟩ :: os) ⟨AH n l, h⟩ k := Lf (by
 simp only [EK, Ba, Ez, M0, GM]
 exact he)
theorem TE {op : Op} (he : BB P N0 0 op (opL n l) h fun v h' => AO P md w ops os ⟨AH n l, h'⟩ k) : AO P md w ops (⟨none, op, ty, pos, af, none⟩ :: os) ⟨AH n l, h⟩ k := Lf (by
 simp only [EK, Ba, Ez, GM]
 exact he)
theorem S_m {v : D} (hx : opL n l x = v) (hk : AO P md w ops os ⟨AH n ((d, v) :: l), h⟩ k) : AO P md w ops (⟨some d, .move x, ty, pos, af, none⟩ :: os) ⟨AH n l, h⟩ k := E4 (by subst hx; exact hk)
theorem S_a {v : D} (hx : opL n l x = v) (hk : AO P md w ops os ⟨AH n ((d, v) :: l), h⟩ k) : AO P md w ops (⟨some d, .assign x, ty, pos, af, none⟩ :: os) ⟨AH n l, h⟩ k := E4 (by subst hx; exact hk)
theorem OX {a b : Operand} {v : D} {c : Bool} (hc : opL n l x = .bool c) (hb : c = true) (ha : opL n l a = v) (hk : AO P md w ops os ⟨AH n ((d, v) :: l), h⟩ k) : AO P md w ops (⟨some d, .pick x a b, ty, pos, af, none⟩ :: os) ⟨AH n l, h⟩ k :=
 E4 (by subst hb ha; simp only [BB, hc, if_true]; exact hk)
theorem Tx {a b : Operand} {v : D} {c : Bool} (hc : opL n l x = .bool c) (hb : c = false) (ha : opL n l b = v) (hk : AO P md w ops os ⟨AH n ((d, v) :: l), h⟩ k) : AO P md w ops (⟨some d, .pick x a b, ty, pos, af, none⟩ :: os) ⟨AH n l, h⟩ k :=
 E4 (by subst hb ha; simp only [BB, hc]; exact hk)
theorem Ek {op : BinOp} {u : TypeId} {dx dy v : D} (hx : opL n l x = dx) (hy : opL n l y = dy) (hb : Ex P h op t dx dy = some v) (hk : AO P md w ops os ⟨AH n ((d, v) :: l), h⟩ k) :
  AO P md w ops (⟨some d, .binOp op t x y u, ty, pos, af, none⟩ :: os) ⟨AH n l, h⟩ k := E4 (by simp only [BB, hx, hy, QN hb, OptP_some]; exact hk)
theorem Aac {op : UnOp} {dx v : D} (hx : opL n l x = dx) (hb : unD op dx = some v) (hk : AO P md w ops os ⟨AH n ((d, v) :: l), h⟩ k) :
  AO P md w ops (⟨some d, .unOp op t x, ty, pos, af, none⟩ :: os) ⟨AH n l, h⟩ k := E4 (by simp only [BB, hx, hb, OptP_some]; exact hk)
theorem O1 {u : TypeId} {dx v : D} (hx : opL n l x = dx) (hb : Hl P h t u dx = some v) (hk : AO P md w ops os ⟨AH n ((d, v) :: l), h⟩ k) :
  AO P md w ops (⟨some d, .convert t u x, ty, pos, af, none⟩ :: os) ⟨AH n l, h⟩ k := E4 (by
 simp only [BB, hx];split
 ·rename_i el s hs;rw [LA] at hb;split at hb
  ·rename_i hc;have h1 := Dm hc.1;simp [slD, h1] at hs
  ·simp at hb
 ·rename_i el k' id' off' n' hs;exfalso;simp only [Hl] at hb;split at hb
  ·split at hb
   ·rename_i hc;have h1 := Dm hc.2.1;simp [slD, h1] at hs
   ·simp at hb
  ·simp at hb
 ·rw [hb, OptP_some]; exact hk)
theorem NF {u : TypeId} {a b : List By8} {f : List By8 -> Option β} (hx : opL n l x = .str a) (hy : opL n l y = .str b) (hF : OptP ((cat a b).bind f) G)
  (hk : OptP (f (a ++ b)) G -> AO P md w ops os ⟨AH n ((d, .str (a ++ b)) :: l), h⟩ k) : AO P md w ops (⟨some d, .binOp .add t x y u, ty, pos, af, none⟩ :: os) ⟨AH n l, h⟩ k :=
 E4 (by
  obtain ⟨v, hv, hF⟩ := Bp hF;unfold cat at hv;split at hv
  ·rename_i hc;injection hv with hv; subst hv
   simp only [BB, hx, hy, KC, KZ, Lj, TN, if_pos hc, OptP_some]; exact hk hF
  ·simp at hv)
def nzI (b : Int) : Option Int := if b = 0 then none else some b
theorem WV {K K' : IntKind} {a b : Int} (hb : decide (b < 0) = false) : Ex P h .shr t (.int K a) (.int K' b) = some (.int K (a.fdiv (2 ^ (min b.toNat K.bits)))) := by
 have : ¬ b < 0 := by simpa using hb
 rw [VC, if_neg this]
theorem U7 {a b : List By8} : Ex P h .eql t (.str a) (.str b) = some (.bool (a == b)) := by rw [Lj, Tc]
theorem Rm {a b : List By8} : Ex P h .neq t (.str a) (.str b) = some (.bool (!(a == b))) := by rw [Lj, SN]
theorem RW {a b : List By8} : Ex P h .lss t (.str a) (.str b) = some (.bool (Op.bytesLess a b)) := by rw [Lj, Tp]
theorem U3 {a b : List By8} : Ex P h .gtr t (.str a) (.str b) = some (.bool (!(Op.bytesLess a b || a == b))) := by rw [Lj, TL]
theorem XH {xs ys : List D} {fs : List (Nat × TypeId)} {b : Bool} (h1 : P.eqGuardType P.depth t = false) (h2 : sfD P t = some fs) (h3 : BT (eqD P h 9999) P xs ys fs = some b) : Ex P h .eql t (.agg xs) (.agg ys) = some (.bool b) := by
 rw [Ng, if_pos h1, h2, ba, h3]; rfl
theorem RN {xs ys : List D} {fs : List (Nat × TypeId)} {b : Bool} (h1 : P.eqGuardType P.depth t = false) (h2 : sfD P t = some fs) (h3 : BT (eqD P h 9999) P xs ys fs = some b) : Ex P h .neq t (.agg xs) (.agg ys) = some (.bool !b) := by
 rw [NI, if_pos h1, h2, ba, h3]; rfl
theorem YV {s : TypeId} {K K' : IntKind} {a : Int} (hk : kiD P t = some K') (hs : (P.underlying s).isSome = true) : Hl P h s t (.int K a) = some (.int K' (K'.wrap a)) := by
 rw [PO, hk]; simp only [hs, if_true]
def IY (b : By8) : List D := [.int .u8 b.toNat]
theorem W0 {s e : TypeId} {r : Nat} {a : List By8} (hs : slD P s = some e) (he : kiD P e = some .u8) (ht : stD P t = true) : Hl P h s t (.sl 1 (a.map IY) r) = some (.str a) := by
 rw [Nx, hs];simp only [he, ht, and_self, if_true];have := LT a;have e1 : (a.map fun b => [FT b]) = a.map IY := rfl;rw [<- e1, this]; rfl
theorem ID {α : Type} {q r : Nat} {c : α -> List D} {L : List α} {e : TypeId} (hx : opL n l x = .sl q (L.map c) r) (ht : slD P t = some e) (hk : AO P md w ops os ⟨AH n ((d, .int .i64 (L.length : Int)) :: l), h⟩ k) :
  AO P md w ops (⟨some d, .call ⟨.builtin .len, #[x], #[t]⟩, ty, pos, af, none⟩ :: os) ⟨AH n l, h⟩ k := E4 (by
 simp only [BB, ES, List.map_cons, List.map_nil, hx, NB, ht, Option.isSome_some, if_true, OptP_some, List.length_map]; exact hk)
theorem Ve {e : TypeId} (hx : opL n l x = .snil) (ht : slD P t = some e) (hk : AO P md w ops os ⟨AH n ((d, .int .i64 0) :: l), h⟩ k) :
  AO P md w ops (⟨some d, .call ⟨.builtin .len, #[x], #[t]⟩, ty, pos, af, none⟩ :: os) ⟨AH n l, h⟩ k := E4 (by
 simp only [BB, ES, List.map_cons, List.map_nil, hx, NB, ht, Option.isSome_some, if_true, OptP_some]; exact hk)
theorem Vo {a : List By8} (hx : opL n l x = .str a) (ht : stD P t = true) (hk : AO P md w ops os ⟨AH n ((d, .int .i64 (a.length : Int)) :: l), h⟩ k) :
  AO P md w ops (⟨some d, .call ⟨.builtin .len, #[x], #[t]⟩, ty, pos, af, none⟩ :: os) ⟨AH n l, h⟩ k := E4 (by
 simp only [BB, ES, List.map_cons, List.map_nil, hx, NB, ht, if_true, OptP_some]; exact hk)
theorem XS {K K' : IntKind} {a b : Int} {ts : Array TypeId} (hx : opL n l x = .int K a) (hy : opL n l y = .int K' b) (hk : AO P md w ops os ⟨AH n ((d, .int K (if b < a then b else a)) :: l), h⟩ k) :
  AO P md w ops (⟨some d, .call ⟨.builtin .min, #[x, y], ts⟩, ty, pos, af, none⟩ :: os) ⟨AH n l, h⟩ k := E4 (by
 simp only [BB, List.map_cons, List.map_nil, hx, hy, V0]; exact hk)
theorem Xh {ds : List D} {i : Nat} {v : D} (hx : opL n l x = .tup ds) (hv : QZ i (.tup ds) = some v) (hk : AO P md w ops os ⟨AH n ((d, v) :: l), h⟩ k) :
  AO P md w ops (⟨some d, .extract x i, ty, pos, af, none⟩ :: os) ⟨AH n l, h⟩ k := E4 (by simp only [BB, hx, hv, OptP_some]; exact hk)
theorem MV {v : D} (hx : opL n l x = v) (hv : UQ v = some v) (hk : AO P md w ops os ⟨AH n ((d, v) :: l), h⟩ k) :
  AO P md w ops (⟨some d, .nilCheck x, ty, pos, af, none⟩ :: os) ⟨AH n l, h⟩ k := E4 (by simp only [BB, hx, hv, OptP_some]; exact hk)
theorem A7 {cs : List D} {f o : Nat} {ft : TypeId} {m : Nat} (hx : opL n l x = .iptr cs) (hf : fdD P t f = some (o, ft)) (hs : szD P ft = some (m + 1)) (ho : Nat.ble o cs.length = true) (hk : AO P md w ops os ⟨AH n ((d, .iptr (cs.drop o)) :: l), h⟩ k) :
  AO P md w ops (⟨some d, .fieldAddr t x f, ty, pos, af, none⟩ :: os) ⟨AH n l, h⟩ k := E4 (by
 have ho' : o <= cs.length := Nat.le_of_ble_eq_true ho
 simp only [BB, hx, TD, hf, hs, P1, ho', if_true]; exact ⟨_, by simp, hk⟩)
theorem H0 {i off : Nat} {f o : Nat} {ft : TypeId} {m : Nat} (hx : opL n l x = .ptr i off) (hf : fdD P t f = some (o, ft)) (hs : szD P ft = some (m + 1)) (hk : AO P md w ops os ⟨AH n ((d, .ptr i (off + o)) :: l), h⟩ k) :
  AO P md w ops (⟨some d, .fieldAddr t x f, ty, pos, af, none⟩ :: os) ⟨AH n l, h⟩ k := E4 (by
 simp only [BB, hx, Sq, hf, hs, P1]; exact ⟨_, by simp, hk⟩)
theorem Bh {cs ds : List D} {v : D} {m : Nat} (ha : agD P t = some false) (hs : szD P t = some m) (he : cs = v :: ds) : DR P t cs = some v := by
 subst he; simp only [DR, ha, hs]
theorem Db {cs vs : List D} {m : Nat} (ha : agD P t = some true) (hs : szD P t = some m) (hl : Nat.ble m cs.length = true) (he : cs.take m = vs) : DR P t cs = some (.agg vs) := by
 simp only [DR, ha, hs, if_pos (Nat.le_of_ble_eq_true hl), he]
theorem AV {cs : List D} {v : D} (hx : opL n l x = .iptr cs) (hp : DR P t cs = some v) (hk : AO P md w ops os ⟨AH n ((d, v) :: l), h⟩ k) :
  AO P md w ops (⟨some d, .load t x, ty, pos, af, none⟩ :: os) ⟨AH n l, h⟩ k := E4 (by simp only [BB, hx, TA, hp, OptP_some]; exact hk)
theorem He {O : List (Nat × AObj)} {i off j : Nat} {cs : List D} {v : D} (ok : OK h O) (hm : md d = 0) (hx : opL n l x = .ptr i off) (hj : O[j]? = some (i, .cells cs)) (hi : i ≠ 0) (hp : DR P t (cs.drop off) = some v)
  (hk : AO P md w ops os ⟨AH n ((d, v) :: l), Hp h O⟩ k) : AO P md w ops (⟨some d, .load t x, ty, pos, af, none⟩ :: os) ⟨AH n l, Hp h O⟩ k := E4 (by
 simp only [BB, hx, hm, Ol, GW, Hp_get j ok hj hi, hp, OptP_some]; exact hk)
theorem Ny {O : List (Nat × AObj)} {i off j : Nat} {cs cs' : List D} {v : D} (ok : OK h O) (hx : opL n l x = .ptr i off) (hy : opL n l y = v) (hj : O[j]? = some (i, .cells cs)) (hi : i ≠ 0) (h1 : v.lay = true) (h2 : szD P t = some v.cells.length)
  (h3 : Nat.ble (off + v.cells.length) cs.length = true) (h4 : Fk cs off v.cells = cs') (hk : OK h (O.set j (i, .cells cs')) -> AO P md w ops os ⟨AH n l, Hp h (O.set j (i, .cells cs'))⟩ k) :
  AO P md w ops (⟨none, .store t x y, ty, pos, af, none⟩ :: os) ⟨AH n l, Hp h O⟩ k := TE (by
 obtain ⟨e1, e2⟩ := Hp_set (y := .cells cs') j ok hj hi;subst hy h4;simp only [BB, hx, Jk, Hp_get j ok hj hi]
 exact ⟨h1, h2, Nat.le_of_ble_eq_true h3, by rw [e1]; exact hk e2⟩)
theorem Jy {α : Type} {q r : Nat} {c : α -> List D} {L : List α} {K : IntKind} {i : Int} {e : TypeId} {f : α -> Option β} (hx : opL n l x = .sl q (L.map c) r) (hy : opL n l y = .int K i) (hs : slD P t = some e) (hq : szD P e = some q)
  (hF : OptP ((idx L i).bind f) G) (hk : ∀ a, idx L i = some a -> OptP (f a) G -> AO P md w ops os ⟨AH n ((d, .iptr (c a)) :: l), h⟩ k) : AO P md w ops (⟨some d, .indexAddr t x y, ty, pos, af, none⟩ :: os) ⟨AH n l, h⟩ k := E4 (by
 obtain ⟨a, ha, hF⟩ := Bp hF;have ha' := ha;unfold idx at ha';split at ha'
 ·rename_i h0;obtain ⟨hlt, he⟩ := List.getElem?_eq_some_iff.1 ha';have hlt' : i < (L.length : Int) := by omega
  have hg : (L.map c).getD i.toNat [] = c a := by simp [List.getD, ha']
  simp only [BB, hx, hy, Mt, hs, ba, hq, List.length_map, h0, hlt', true_and, if_true, OptP_some, hg];exact hk a ha hF
 ·simp at ha')
theorem Vh {K : IntKind} {i : Int} {a : List By8} {f : By8 -> Option β} (hx : opL n l x = .str a) (hy : opL n l y = .int K i) (hs : stD P t = true)
  (hF : OptP ((idx a i).bind f) G) (hk : ∀ b, idx a i = some b -> OptP (f b) G -> AO P md w ops os ⟨AH n ((d, .int .u8 (b.toNat : Int)) :: l), h⟩ k) : AO P md w ops (⟨some d, .index t x y, ty, pos, af, none⟩ :: os) ⟨AH n l, h⟩ k := E4 (by
 obtain ⟨b, hb, hF⟩ := Bp hF;have ha' := hb;unfold idx at ha';split at ha'
 ·rename_i h0;obtain ⟨hlt, he⟩ := List.getElem?_eq_some_iff.1 ha';have hlt' : i < (a.length : Int) := by omega
  have hg : a.getD i.toNat 0 = b := by simp [List.getD, ha']
  simp only [BB, hx, hy, Oc, hs, h0, hlt', true_and, if_true, OptP_some, hg];exact hk b hb hF
 ·simp at ha')
theorem JV {α : Type} {L : List α} {i j : Int} {a : List α} (h : slc L i j = some a) : (0 <= i /\ i <= j /\ j <= (L.length : Int)) /\ a = (L.drop i.toNat).take (j.toNat - i.toNat) := by
 unfold slc at h;split at h
 ·rename_i hc; injection h with h; exact ⟨hc, h.symm⟩
 ·simp at h
theorem QY {a : List By8} {lo hi : Option Operand} {i j : Int} {f : List By8 -> Option β} (hx : opL n l x = .str a) (hs : stD P t = true) (h1 : BI (lo.map (opL n l)) 0 = some i) (h2 : BI (hi.map (opL n l)) a.length = some j)
  (hF : OptP ((slc a i j).bind f) G) (hk : ∀ b, slc a i j = some b -> OptP (f b) G -> AO P md w ops os ⟨AH n ((d, .str b) :: l), h⟩ k) : AO P md w ops (⟨some d, .slice t x lo hi none, ty, pos, af, none⟩ :: os) ⟨AH n l, h⟩ k := E4 (by
 obtain ⟨b, hb, hF⟩ := Bp hF;obtain ⟨hc, he⟩ := JV hb;simp only [BB, hx, Lt, hs, h1, h2, if_true, if_pos hc, OptP_some, <- he]
 exact hk b hb hF)
theorem X1 {α : Type} {q r : Nat} {c : α -> List D} {L : List α} {e : TypeId} {lo hi : Option Operand} {i j : Int} {f : List α -> Option β} (hx : opL n l x = .sl q (L.map c) r) (hs : slD P t = some e) (hq : szD P e = some q)
  (h1 : BI (lo.map (opL n l)) 0 = some i) (h2 : BI (hi.map (opL n l)) (L.map c).length = some j)
  (hF : OptP ((slc L i j).bind f) G) (hk : ∀ b, slc L i j = some b -> OptP (f b) G -> AO P md w ops os ⟨AH n ((d, .sl q (b.map c) 0) :: l), h⟩ k) : AO P md w ops (⟨some d, .slice t x lo hi none, ty, pos, af, none⟩ :: os) ⟨AH n l, h⟩ k := E4 (by
 obtain ⟨b, hb, hF⟩ := Bp hF;obtain ⟨hc, he⟩ := JV hb;have hc' : 0 <= i /\ i <= j /\ j <= ((L.map c).length : Int) := by simpa using hc
 have e1 : ((L.map c).drop i.toNat).take (j.toNat - i.toNat) = b.map c := by rw [he, List.map_take, List.map_drop]
 simp only [BB, hx, LM, hs, ba, hq, h1, h2, if_true, if_pos hc', OptP_some, e1]
 exact hk b hb hF)
theorem Ps {a : Nat} : BI ((none : Option Operand).map (opL n l)) a = some (a : Int) := rfl
theorem NA {a : Nat} {K : IntKind} {i : Int} (hy : opL n l y = .int K i) : BI ((some y).map (opL n l)) a = some i := by
 simp only [Option.map_some, hy]; rfl
theorem UZ {α : Type} {c : α -> List D} {L : List α} : BI ((none : Option Operand).map (opL n l)) (L.map c).length = some (L.length : Int) := by
 simp [BI]
theorem V3 {O : List (Nat × AObj)} {v : D} {cs : List D} (ok : OK h O) (hm : md d = 1) (hx : opL n l x = v) (h1 : v.lay = true) (h2 : v.cells = cs)
  (hk : ∀ i, i ≠ 0 -> OK h ((i, .cells cs) :: O) -> AO P md w ops os ⟨AH n ((d, .ptr i 0) :: l), Hp h ((i, .cells cs) :: O)⟩ k) : AO P md w ops (⟨some d, .box t x, ty, pos, af, none⟩ :: os) ⟨AH n l, Hp h O⟩ k := E4 (by
 subst hx h2;simp only [BB, hm, OY];refine ⟨h1, fun i hf hi => ?_⟩;obtain ⟨e1, e2⟩ := Hp_new (x := .cells (opL n l x).cells) ok hf hi
 rw [e1]; exact hk i hi e2)
theorem Da {v : D} {cs : List D} (hm : md d = 0) (hx : opL n l x = v) (h1 : v.lay = true) (h2 : v.cells = cs)
  (hk : AO P md w ops os ⟨AH n ((d, .iptr cs) :: l), h⟩ k) : AO P md w ops (⟨some d, .box t x, ty, pos, af, none⟩ :: os) ⟨AH n l, h⟩ k := E4 (by
 subst hx h2;simp only [BB, hm, SU]
 exact ⟨h1, hk⟩)
theorem FI {O : List (Nat × AObj)} {cs : List D} (ok : OK h O) (hm : md d = 1) (hz : zcD P t = some cs)
  (hk : ∀ i, i ≠ 0 -> OK h ((i, .cells cs) :: O) -> AO P md w ops os ⟨AH n ((d, .ptr i 0) :: l), Hp h ((i, .cells cs) :: O)⟩ k) : AO P md w ops (⟨some d, .alloc t, ty, pos, af, none⟩ :: os) ⟨AH n l, Hp h O⟩ k := E4 (by
 simp only [BB, hm, hz, OptP_some, OY];intro i hf hi;obtain ⟨e1, e2⟩ := Hp_new (x := .cells cs) ok hf hi
 rw [e1]; exact hk i hi e2)
theorem D4 {ps : Array (Nat × Operand)} {v : D} (hb : Im P t (ps.toList.map fun p => (p.1, opL n l p.2)) = some v) (hk : AO P md w ops os ⟨AH n ((d, v) :: l), h⟩ k) : AO P md w ops (⟨some d, .build t ps, ty, pos, af, none⟩ :: os) ⟨AH n l, h⟩ k := E4 (by
 simp only [BB, hb, OptP_some]; exact hk)
theorem G2 {z cs : List D} {pl : List (Nat × Nat)} {parts : List (Nat × D)} (hz : zcD P t = some z) (hp : plD P t = some pl) (hf : Ga (fun i => pl[i]?) z parts = some cs) : Im P t parts = some (.agg cs) := by
 simp only [Im, hz, hp, hf]; rfl
theorem Uu {O : List (Nat × AObj)} {ps : Array (Nat × Operand)} {m q B : Nat} {zs cs : List D} {es : List (List D)} (ok : OK h O) (hm : md d = 2) (he : elD P t = some (q, B, zs)) (hn : Nat.ble (m * q) 16777216 = true)
  (hf : Ga (fun i => some (i * q, q)) (List.replicate m zs).flatten (ps.toList.map fun p => (p.1, opL n l p.2)) = some cs) (hc : CM q m cs = es)
  (hk : ∀ r, r ≠ 0 -> OK h ((r, .room) :: O) -> AO P md w ops os ⟨AH n ((d, .sl q es r) :: l), Hp h ((r, .room) :: O)⟩ k) : AO P md w ops (⟨some d, .buildSlice t m ps, ty, pos, af, none⟩ :: os) ⟨AH n l, Hp h O⟩ k := E4 (by
 subst hc;simp only [BB, T0, he, hm, hf, Nd];refine ⟨Nat.le_of_ble_eq_true hn, fun r hfr hr => ?_⟩;obtain ⟨e1, e2⟩ := Hp_new (x := .room) ok hfr hr
 rw [e1]; exact hk r hr e2)
theorem DM {ps : Array (Nat × Operand)} {m q B : Nat} {zs cs : List D} {es : List (List D)} (hm : md d = 0) (he : elD P t = some (q, B, zs)) (hn : Nat.ble (m * q) 16777216 = true)
  (hf : Ga (fun i => some (i * q, q)) (List.replicate m zs).flatten (ps.toList.map fun p => (p.1, opL n l p.2)) = some cs) (hc : CM q m cs = es)
  (hk : AO P md w ops os ⟨AH n ((d, .sl q es 0) :: l), h⟩ k) : AO P md w ops (⟨some d, .buildSlice t m ps, ty, pos, af, none⟩ :: os) ⟨AH n l, h⟩ k := E4 (by
 subst hc;simp only [BB, T0, he, hm, hf, QT]
 exact ⟨Nat.le_of_ble_eq_true hn, hk⟩)
theorem TS {O : List (Nat × AObj)} {α : Type} {q r r2 j B : Nat} {zs : List D} {c : α -> List D} {L M : List α} {u : TypeId} {f : List α -> Option β} (ok : OK h O) (hm : md d = 2) (hx : opL n l x = .sl q (L.map c) r) (hy : opL n l y = .sl q (M.map c) r2)
  (hj : O[j]? = some (r, .room)) (hr : r ≠ 0) (he : elD P t = some (q, B, zs)) (hu : Fd P u = true) (hF : OptP ((app B L M).bind f) G)
  (hk : ∀ r', r' ≠ 0 -> OK h (O.set j (r', .room)) -> OptP (f (L ++ M)) G -> AO P md w ops os ⟨AH n ((d, .sl q ((L ++ M).map c) r') :: l), Hp h (O.set j (r', .room))⟩ k) :
  AO P md w ops (⟨some d, .call ⟨.builtin .append, #[x, y], #[t, u]⟩, ty, pos, af, none⟩ :: os) ⟨AH n l, Hp h O⟩ k := E4 (by
 obtain ⟨v, hv, hF⟩ := Bp hF;unfold app at hv;split at hv
 ·rename_i hc;injection hv with hv; subst hv
  simp only [BB, ES, List.map_cons, List.map_nil, hx, hy, hm, Ff, he, PM, if_true, hu, true_and, List.length_map, Hp_get j ok hj hr, Nd];refine ⟨hc.1, hc.2, by decide, fun r' hf hr' => ?_⟩;obtain ⟨e1, e2⟩ := Hp_rel j ok hj hr;rw [e1];have hf' : Hp h (O.set j (0, .room)) r' = none := by
   rw [<- e1];by_cases e : r' = r
   ·subst e; exact Heap.upd_same ..
   ·rw [Heap.upd_ne _ _ e]; exact hf
  obtain ⟨hlt, _⟩ := List.getElem?_eq_some_iff.1 hj;obtain ⟨e3, e4⟩ := Hp_fill (x := .room) j e2 (by simp [hlt]) hr' hf';rw [e3, List.set_set] at *;rw [<- List.map_append];exact hk r' hr' e4 hF
 ·simp at hv)
theorem CallsA.arg {f : FuncId} {ds0 ds : List D} {h : Heap} {R : D -> Heap -> Prop} (hw : WdC ds0 ds) (c : CallsA P f ds h R) : CallsA P f ds0 h R :=
 c.imp (fun c => ⟨c.1, fun K w vs H hl hv => c.2 K w vs H (hl.trans hw.l) fun i => (hw.c i).rel (hv i)⟩) fun c K w vs H hl hv => c K w vs H (hl.trans hw.l) fun i => (hw.c i).rel (hv i)
theorem CallsA.ret {f : FuncId} {ds : List D} {h : Heap} {R : D -> Heap -> Prop} (c : CallsA P f ds h fun d h' => ∃ d2 h2, Wd d d2 /\ WH h' h2 /\ R d2 h2) : CallsA P f ds h R :=
 c.imp (fun c => ⟨c.1, fun K w vs H hl hv => (c.2 K w vs H hl hv).mono fun e w' ⟨v, d, K', h', a, b, cc, dd, d2, h2, w1, w2, r⟩ => ⟨v, d2, K', h2, a, b, cc.weaken w2, w1.rel dd, r⟩⟩)
  fun c K w vs H hl hv => let ⟨v, w', d, K', h', a, b, cc, dd, d2, h2, w1, w2, r⟩ := c K w vs H hl hv; ⟨v, w', d2, K', h2, a, b, cc.weaken w2, w1.rel dd, r⟩
theorem Ev {g : FuncId} {args : Array Operand} {ts : Array TypeId} {ds : List D} (hc : CallsA P g ds h fun v h' => AO P md w ops os ⟨AH n ((d, v) :: l), h'⟩ k) (hw : WdC (args.toList.map (opL n l)) ds) :
  AO P md w ops (⟨some d, .call ⟨.value (.func g), args, ts⟩, ty, pos, af, none⟩ :: os) ⟨AH n l, h⟩ k := E4 (by
 have := hc.arg hw
 simpa only [BB, opL, List.nil_append, List.append_nil] using this)
theorem OK.wh {O : List (Nat × AObj)} (ok : OK h O) : WH (Hp h O) h := by
 have : ∀ O : List (Nat × AObj), WO O [] := fun O => by induction O with | nil => exact .nil | cons p O ih => exact .drop ih
 exact ((this O).spec ok).2.2
inductive RV (P : Program) (n : Nat) (l : List (Nat × D)) (h : Heap) : List ResultVar -> List D -> Prop
 | nil : RV P n l h [] []
 | tmp {t : Nat} {v : D} {rs : List ResultVar} {vs : List D} (hx : opL n l (.tmp t) = v) (r : RV P n l h rs vs) : RV P n l h (.tmp t :: rs) (v :: vs)
 | cell {a : Nat} {t : TypeId} {p v : D} {rs : List ResultVar} {vs : List D} (hx : opL n l (.tmp a) = p) (hl : I6 P h t p = some v) (r : RV P n l h rs vs) : RV P n l h (.cell a t :: rs) (v :: vs)
theorem RV.spec : ∀ {rs : List ResultVar} {vs : List D}, RV P n l h rs vs -> rs.mapM (RG P ⟨AH n l, h⟩) = some vs
 | _, _, .nil => rfl
 | _, _, .tmp (t := t) hx r => by
  have : (AH n l).getD t .any = opL n l (.tmp t) := congrFun (GM n l) (.tmp t);simp only [List.mapM_cons, RG, this, hx, r.spec]; rfl
 | _, _, .cell (a := a) hx hl r => by
  have : (AH n l).getD a .any = opL n l (.tmp a) := congrFun (GM n l) (.tmp a);simp only [List.mapM_cons, RG, this, hx, hl, r.spec]; rfl
theorem NR {fn : Func} {rs : List ResultVar} {vs : List D} {R : D -> Heap -> Prop} (hr : fn.results.toList = rs) (hv : RV P n l h rs vs) (hR : R (PV vs) h) : RetP P fn R .ret ⟨AH n l, h⟩ := by
 show OptP (fn.results.toList.mapM (RG P ⟨AH n l, h⟩)) fun l => R (PV l) h;rw [hr, hv.spec, OptP_some]; exact hR
theorem IL {fn : Func} {rs : List ResultVar} {vs : List D} {R : D -> Heap -> Prop} (hr : fn.results.toList = rs) (hv : RV P n l h rs vs) (hR : R (PV vs) h) : RetP P fn R .normal ⟨AH n l, h⟩ := NR hr hv hR
def Tu : Nat -> List D -> List (Nat × D)
 | _, [] => []
 | i, d :: ds => (i, d) :: Tu (i + 1) ds
theorem MA : ∀ (ds : List D) (i t : Nat), Gl (Tu i ds) t = if i <= t then ds.getD (t - i) .any else .any
 | [], i, t => by simp [Tu, Gl]
 | d :: ds, i, t => by
  show (match Nat.beq i t with | true => d | false => Gl (Tu (i + 1) ds) t) = _
  cases hb : Nat.beq i t with
  | true => rw [Nat.beq_eq] at hb; subst hb; simp
  | false =>
   have hne : i ≠ t := fun e => by rw [e, Nat.beq_refl] at hb; simp at hb
   simp only [MA ds (i + 1) t];by_cases h1 : i <= t
   ·have e : t - i = (t - (i + 1)) + 1 := by omega
    rw [if_pos h1, if_pos (by omega), e]; simp
   ·rw [if_neg h1, if_neg (by omega)]
theorem Ru (ds : List D) (m : Nat) : ds ++ List.replicate m .any = AH (ds.length + m) (Tu 0 ds) := by
 refine List.ext_getElem? fun j => ?_;by_cases hj : j < ds.length + m
 ·simp only [AH, List.getElem?_map, List.getElem?_range hj, Option.map_some, MA];by_cases h1 : j < ds.length
  ·rw [List.getElem?_append_left h1]; simp [List.getD, h1]
  ·rw [List.getElem?_append_right (by omega), List.getElem?_replicate, if_pos (by omega)];simp [List.getD, h1]
 ·rw [List.getElem?_eq_none (by simp; omega), List.getElem?_eq_none (by simp [AH]; omega)]
theorem Bc {f : FuncId} {fn : Func} {c : Code} {args : List D} {h : Heap} {R : D -> Heap -> Prop} {N : Nat} (hf : P.funcs[f]? = some fn) (hb : fn.body = some c) (he : Ds P f = true) (hn : fn.ntmps = N) (ha : args.length + (N - args.length) = N)
  (hw : OK h [] -> WP P c (RetP P fn R) ⟨AH N (Tu 0 args), Hp h []⟩) : CallsA P f args h R := by
 refine CallsA_body hf hb he ?_;rw [hn, Ru, ha]; exact hw trivial
def Aaq (n : Int) : List D := [.int .i8 n]
def Zw (n : Int) : List D := [.int .i16 n]
def Aaj (n : Int) : List D := [.int .i32 n]
def OV (n : Int) : List D := [.int .i64 n]
def Zm (n : Int) : List D := [.int .u16 n]
def Y6 (n : Int) : List D := [.int .u32 n]
def ZE (n : Int) : List D := [.int .u64 n]
def YY (b : Bool) : List D := [.bool b]
def Am (x : List By8) : List D := [.str x]
def Y4 (n : Nat) : List D := [.float .f64 n]
def YP (n : Nat × Nat) : List D := [.cplx .f64 n.1 n.2]
def Aar {α : Type} (q : Nat) (c : α -> List D) (l : List α) : List D := [.sl q (l.map c) 0]
def Aax (k : IntKind) (a b : Int) : Int := k.wrap ((BitVec.ofInt k.bits a &&& BitVec.ofInt k.bits b).toNat : Int)
def ior (k : IntKind) (a b : Int) : Int := k.wrap ((BitVec.ofInt k.bits a ||| BitVec.ofInt k.bits b).toNat : Int)
def Aao (k : IntKind) (a b : Int) : Int := k.wrap ((BitVec.ofInt k.bits a ^^^ BitVec.ofInt k.bits b).toNat : Int)
def X4 (k : IntKind) (a b : Int) : Int := k.wrap ((BitVec.ofInt k.bits a &&& ~~~(BitVec.ofInt k.bits b)).toNat : Int)
def Aas (k : IntKind) (a b : Int) : Int := k.wrap (a * 2 ^ (min b.toNat k.bits))
def RI (k : IntKind) (a b : Int) : Int := a.fdiv (2 ^ (min b.toNat k.bits))
def ngI (b : Int) : Option Int := if b < 0 then none else some b
theorem Zd {K : IntKind} {a b : Int} : Ex P h .or t (.int K a) (.int K b) = some (.int K (ior K a b)) := Xg ..
theorem Zi {dst : Option Nat} {op : Op} {s : St} (hk : AO P md false ops [⟨dst, op, ty, pos, af, none⟩] s fun s' => AO P md w ops os s' k) : EK P N0 md ops ⟨dst, op, ty, pos, af, none⟩ s fun s' => AO P md w ops os s' k := Cg hk.2 fun _ h => h.2
theorem RD {u e : TypeId} {a : List By8} (hm : md d = 0) (hx : opL n l x = .str a) (hs : slD P u = some e) (ht : stD P t = true) (he : kiD P e = some .u8) (hk : AO P md w ops os ⟨AH n ((d, .sl 1 (a.map IY) 0) :: l), h⟩ k) :
  AO P md w ops (⟨some d, .convert t u x, ty, pos, af, none⟩ :: os) ⟨AH n l, h⟩ k := E4 (by
 simp only [BB, hs, hx, TP, ht, he, hm, true_and]
 exact ⟨fun h0 => absurd h0 (by decide), fun _ => hk⟩)
theorem Vk {O : List (Nat × AObj)} {u e : TypeId} {a : List By8} (ok : OK h O) (hm : md d = 2) (hx : opL n l x = .str a) (hs : slD P u = some e) (ht : stD P t = true) (he : kiD P e = some .u8)
  (hk : ∀ r, r ≠ 0 -> OK h ((r, .room) :: O) -> AO P md w ops os ⟨AH n ((d, .sl 1 (a.map IY) r) :: l), Hp h ((r, .room) :: O)⟩ k) :
  AO P md w ops (⟨some d, .convert t u x, ty, pos, af, none⟩ :: os) ⟨AH n l, Hp h O⟩ k := E4 (by
 simp only [BB, hs, hx, TP, ht, he, hm, true_and];refine ⟨fun h0 => absurd h0 (by decide), fun _ r hf hr => ?_⟩;obtain ⟨e1, e2⟩ := Hp_new (x := .room) ok hf hr
 rw [e1]; exact hk r hr e2)
end
theorem Yr {P : Program} {Q : Exit -> St -> Prop} {n : Nat} {l : List (Nat × D)} {h : Heap} {c : Operand} {x y : Code} {b : Bool} (hc : opL n l c = .bool b) (hb : b = true) (hT : WP P x Q ⟨AH n l, h⟩) : WP P (.cond c x y) Q ⟨AH n l, h⟩ := by
 refine LD ?_;show Pk (opD (AH n l) c) _ _;rw [GM, hc, hb]; exact hT
theorem YR {P : Program} {Q : Exit -> St -> Prop} {n : Nat} {l : List (Nat × D)} {h : Heap} {c : Operand} {x y : Code} {b : Bool} (hc : opL n l c = .bool b) (hb : b = false) (hE : WP P y Q ⟨AH n l, h⟩) : WP P (.cond c x y) Q ⟨AH n l, h⟩ := by
 refine LD ?_;show Pk (opD (AH n l) c) _ _;rw [GM, hc, hb]; exact hE
theorem Yg {P : Program} {md : Nat -> Nat} {w : Bool} {ops : Array Oper} {os : List Oper} {k : St -> Prop} {β : Type} {G : β -> Prop} {b : Bool} {X Y : Option β} {s : St} (hF : OptP (cond b X Y) G) (h1 : b = true -> OptP X G -> AO P md w ops os s k)
  (h2 : b = false -> OptP Y G -> AO P md w ops os s k) : AO P md w ops os s k := by
 rcases MI hF with ⟨hb, h⟩ | ⟨hb, h⟩
 ·exact h1 hb h
 ·exact h2 hb h
theorem Exit.sel_ret {A : St -> Prop} {Q : Exit -> St -> Prop} {s : St} (h : Q .ret s) : Exit.sel A Q .ret s := h
theorem Exit.blk_ret {i : Nat} {Q : Exit -> St -> Prop} {s : St} (h : Q .ret s) : Exit.blk i Q .ret s := h
end Go.Proofs.YtjofelloaofooaaGreatDoor
