/- One rule an operation, in step with a plain function. No condition. -/
import Derived.Test.YtfokkdofcekdbaaGreatDoorEng18
set_option linter.unusedSimpArgs false
set_option linter.unusedVariables false
namespace Go.Proofs.YtfokkdofcekdbaaGreatDoor
section
variable {P : Program} {md : Nat → Nat} {w : Bool} {ops : Array Oper} {os : List Oper} {k : St → Prop} {n : Nat} {l : List (Nat × D)} {h : Heap} {d : Nat} {t ty : TypeId} {pos : String} {af : Array Edge} {x y z : Operand}
variable {β : Type} {G : β → Prop}
theorem S_of {op : Op} (he : effD P N0 (md d) op (opL n l) h fun v h' => seqQ P md w ops os ⟨mkSl n ((d, v) :: l), h'⟩ k) : seqQ P md w ops (⟨some d, op, ty, pos, af, none⟩ :: os) ⟨mkSl n l, h⟩ k := S_step (by
 simp only [stepG, modeOf, putD, mkSl_set, opL_eq]
 exact he)
theorem S_ofN {op : Op} (he : effD P N0 0 op (opL n l) h fun v h' => seqQ P md w ops os ⟨mkSl n l, h'⟩ k) : seqQ P md w ops (⟨none, op, ty, pos, af, none⟩ :: os) ⟨mkSl n l, h⟩ k := S_step (by
 simp only [stepG, modeOf, putD, opL_eq]
 exact he)
theorem S_m {v : D} (hx : opL n l x = v) (hk : seqQ P md w ops os ⟨mkSl n ((d, v) :: l), h⟩ k) : seqQ P md w ops (⟨some d, .move x, ty, pos, af, none⟩ :: os) ⟨mkSl n l, h⟩ k := S_of (by subst hx; exact hk)
theorem S_a {v : D} (hx : opL n l x = v) (hk : seqQ P md w ops os ⟨mkSl n ((d, v) :: l), h⟩ k) : seqQ P md w ops (⟨some d, .assign x, ty, pos, af, none⟩ :: os) ⟨mkSl n l, h⟩ k := S_of (by subst hx; exact hk)
theorem S_pickT {a b : Operand} {v : D} {c : Bool} (hc : opL n l x = .bool c) (hb : c = true) (ha : opL n l a = v) (hk : seqQ P md w ops os ⟨mkSl n ((d, v) :: l), h⟩ k) : seqQ P md w ops (⟨some d, .pick x a b, ty, pos, af, none⟩ :: os) ⟨mkSl n l, h⟩ k :=
 S_of (by subst hb ha; simp only [effD, hc, if_true]; exact hk)
theorem S_pickF {a b : Operand} {v : D} {c : Bool} (hc : opL n l x = .bool c) (hb : c = false) (ha : opL n l b = v) (hk : seqQ P md w ops os ⟨mkSl n ((d, v) :: l), h⟩ k) : seqQ P md w ops (⟨some d, .pick x a b, ty, pos, af, none⟩ :: os) ⟨mkSl n l, h⟩ k :=
 S_of (by subst hb ha; simp only [effD, hc]; exact hk)
theorem S_bin {op : BinOp} {u : TypeId} {dx dy v : D} (hx : opL n l x = dx) (hy : opL n l y = dy) (hb : binD P h op t dx dy = some v) (hk : seqQ P md w ops os ⟨mkSl n ((d, v) :: l), h⟩ k) :
  seqQ P md w ops (⟨some d, .binOp op t x y u, ty, pos, af, none⟩ :: os) ⟨mkSl n l, h⟩ k := S_of (by simp only [effD, hx, hy, bin2D_of hb, OptP_some]; exact hk)
theorem S_un {op : UnOp} {dx v : D} (hx : opL n l x = dx) (hb : unD op dx = some v) (hk : seqQ P md w ops os ⟨mkSl n ((d, v) :: l), h⟩ k) :
  seqQ P md w ops (⟨some d, .unOp op t x, ty, pos, af, none⟩ :: os) ⟨mkSl n l, h⟩ k := S_of (by simp only [effD, hx, hb, OptP_some]; exact hk)
theorem S_conv {u : TypeId} {dx v : D} (hx : opL n l x = dx) (hb : convD P h t u dx = some v) (hk : seqQ P md w ops os ⟨mkSl n ((d, v) :: l), h⟩ k) :
  seqQ P md w ops (⟨some d, .convert t u x, ty, pos, af, none⟩ :: os) ⟨mkSl n l, h⟩ k := S_of (by
 simp only [effD, hx]
 split
 ·rename_i el s hs
  rw [ev_conv_str] at hb
  split at hb
  ·rename_i hc
   have h1 := und_stD hc.1
   simp [slD, h1] at hs
  ·simp at hb
 ·rename_i el k' id' off' n' hs
  exfalso
  simp only [convD] at hb
  split at hb
  ·split at hb
   ·rename_i hc
    have h1 := und_stD hc.2.1
    simp [slD, h1] at hs
   ·simp at hb
  ·simp at hb
 ·rw [hb, OptP_some]; exact hk)
def nzI (b : Int) : Option Int := if b = 0 then none else some b
theorem e_seql {a b : List UInt8} : binD P h .eql t (.str a) (.str b) = some (.bool (a == b)) := by rw [ev_str, ev_seql]
theorem e_sneq {a b : List UInt8} : binD P h .neq t (.str a) (.str b) = some (.bool (!(a == b))) := by rw [ev_str, ev_sneq]
theorem e_aggn {xs ys : List D} {fs : List (Nat × TypeId)} {b : Bool} (h1 : P.eqGuardType P.depth t = false) (h2 : sfD P t = some fs) (h3 : eqFieldsD (eqD P h 9999) P xs ys fs = some b) : binD P h .neq t (.agg xs) (.agg ys) = some (.bool !b) := by
 rw [ev_neq_agg, if_pos h1, h2, Option.bind_some, h3]; rfl
theorem e_ci {s : TypeId} {K K' : IntKind} {a : Int} (hk : kiD P t = some K') (hs : (P.underlying s).isSome = true) : convD P h s t (.int K a) = some (.int K' (K'.wrap a)) := by
 rw [ev_conv_i, hk]; simp only [hs, if_true]
theorem e_cr {s : TypeId} {K : IntKind} {a : Int} (hk : kiD P t = none) (hf : faD P t = none) (ht : stD P t = true) (hs : (P.underlying s).isSome = true) : convD P h s t (.int K a) = some (.str (Utf8.encode a).data.toList) := by
 rw [ev_conv_i, hk, hf]; simp only [hs, ht, and_self, if_true]
def c_u8 (b : UInt8) : List D := [.int .u8 b.toNat]
theorem e_cbs {s e : TypeId} {r : Nat} {a : List UInt8} (hs : slD P s = some e) (he : kiD P e = some .u8) (ht : stD P t = true) : convD P h s t (.sl 1 (a.map c_u8) r) = some (.str a) := by
 rw [ev_conv_sl, hs]
 simp only [he, ht, and_self, if_true]
 have := bytesOf_map a
 have e1 : (a.map fun b => [byteD b]) = a.map c_u8 := rfl
 rw [← e1, this]; rfl
theorem S_lenL {α : Type} {q r : Nat} {c : α → List D} {L : List α} {e : TypeId} (hx : opL n l x = .sl q (L.map c) r) (ht : slD P t = some e) (hk : seqQ P md w ops os ⟨mkSl n ((d, .int .i64 (L.length : Int)) :: l), h⟩ k) :
  seqQ P md w ops (⟨some d, .call ⟨.builtin .len, #[x], #[t]⟩, ty, pos, af, none⟩ :: os) ⟨mkSl n l, h⟩ k := S_of (by
 simp only [effD, builtD, List.map_cons, List.map_nil, hx, lenD, ht, Option.isSome_some, if_true, OptP_some, List.length_map]; exact hk)
theorem S_lenN {e : TypeId} (hx : opL n l x = .snil) (ht : slD P t = some e) (hk : seqQ P md w ops os ⟨mkSl n ((d, .int .i64 0) :: l), h⟩ k) :
  seqQ P md w ops (⟨some d, .call ⟨.builtin .len, #[x], #[t]⟩, ty, pos, af, none⟩ :: os) ⟨mkSl n l, h⟩ k := S_of (by
 simp only [effD, builtD, List.map_cons, List.map_nil, hx, lenD, ht, Option.isSome_some, if_true, OptP_some]; exact hk)
theorem S_lenS {a : List UInt8} (hx : opL n l x = .str a) (ht : stD P t = true) (hk : seqQ P md w ops os ⟨mkSl n ((d, .int .i64 (a.length : Int)) :: l), h⟩ k) :
  seqQ P md w ops (⟨some d, .call ⟨.builtin .len, #[x], #[t]⟩, ty, pos, af, none⟩ :: os) ⟨mkSl n l, h⟩ k := S_of (by
 simp only [effD, builtD, List.map_cons, List.map_nil, hx, lenD, ht, if_true, OptP_some]; exact hk)
theorem S_min {K K' : IntKind} {a b : Int} {ts : Array TypeId} (hx : opL n l x = .int K a) (hy : opL n l y = .int K' b) (hk : seqQ P md w ops os ⟨mkSl n ((d, .int K (if b < a then b else a)) :: l), h⟩ k) :
  seqQ P md w ops (⟨some d, .call ⟨.builtin .min, #[x, y], ts⟩, ty, pos, af, none⟩ :: os) ⟨mkSl n l, h⟩ k := S_of (by
 simp only [effD, List.map_cons, List.map_nil, hx, hy, ev_min]; exact hk)
theorem S_ext {ds : List D} {i : Nat} {v : D} (hx : opL n l x = .tup ds) (hv : extrD i (.tup ds) = some v) (hk : seqQ P md w ops os ⟨mkSl n ((d, v) :: l), h⟩ k) :
  seqQ P md w ops (⟨some d, .extract x i, ty, pos, af, none⟩ :: os) ⟨mkSl n l, h⟩ k := S_of (by simp only [effD, hx, hv, OptP_some]; exact hk)
theorem S_nilc {v : D} (hx : opL n l x = v) (hv : nilD v = some v) (hk : seqQ P md w ops os ⟨mkSl n ((d, v) :: l), h⟩ k) :
  seqQ P md w ops (⟨some d, .nilCheck x, ty, pos, af, none⟩ :: os) ⟨mkSl n l, h⟩ k := S_of (by simp only [effD, hx, hv, OptP_some]; exact hk)
theorem S_faQ {cs : List D} {f o : Nat} {ft : TypeId} {m : Nat} (hx : opL n l x = .iptr cs) (hf : fdD P t f = some (o, ft)) (hs : szD P ft = some (m + 1)) (ho : Nat.ble o cs.length = true) (hk : seqQ P md w ops os ⟨mkSl n ((d, .iptr (cs.drop o)) :: l), h⟩ k) :
  seqQ P md w ops (⟨some d, .fieldAddr t x f, ty, pos, af, none⟩ :: os) ⟨mkSl n l, h⟩ k := S_of (by
 have ho' : o ≤ cs.length := Nat.le_of_ble_eq_true ho
 simp only [effD, hx, ev_fa_i, hf, hs, nz_some, ho', if_true]; exact ⟨_, by simp, hk⟩)
theorem S_faP {i off : Nat} {f o : Nat} {ft : TypeId} {m : Nat} (hx : opL n l x = .ptr i off) (hf : fdD P t f = some (o, ft)) (hs : szD P ft = some (m + 1)) (hk : seqQ P md w ops os ⟨mkSl n ((d, .ptr i (off + o)) :: l), h⟩ k) :
  seqQ P md w ops (⟨some d, .fieldAddr t x f, ty, pos, af, none⟩ :: os) ⟨mkSl n l, h⟩ k := S_of (by
 simp only [effD, hx, ev_fa_p, hf, hs, nz_some]; exact ⟨_, by simp, hk⟩)
theorem p_one {cs ds : List D} {v : D} {m : Nat} (ha : agD P t = some false) (hs : szD P t = some m) (he : cs = v :: ds) : partD P t cs = some v := by
 subst he; simp only [partD, ha, hs]
theorem p_agg {cs vs : List D} {m : Nat} (ha : agD P t = some true) (hs : szD P t = some m) (hl : Nat.ble m cs.length = true) (he : cs.take m = vs) : partD P t cs = some (.agg vs) := by
 simp only [partD, ha, hs, if_pos (Nat.le_of_ble_eq_true hl), he]
theorem S_ldQ {cs : List D} {v : D} (hx : opL n l x = .iptr cs) (hp : partD P t cs = some v) (hk : seqQ P md w ops os ⟨mkSl n ((d, v) :: l), h⟩ k) :
  seqQ P md w ops (⟨some d, .load t x, ty, pos, af, none⟩ :: os) ⟨mkSl n l, h⟩ k := S_of (by simp only [effD, hx, loadM_i, hp, OptP_some]; exact hk)
theorem S_ldP {O : List (Nat × AObj)} {i off j : Nat} {cs : List D} {v : D} (ok : OK h O) (hm : md d = 0) (hx : opL n l x = .ptr i off) (hj : O[j]? = some (i, .cells cs)) (hi : i ≠ 0) (hp : partD P t (cs.drop off) = some v)
  (hk : seqQ P md w ops os ⟨mkSl n ((d, v) :: l), Hp h O⟩ k) : seqQ P md w ops (⟨some d, .load t x, ty, pos, af, none⟩ :: os) ⟨mkSl n l, Hp h O⟩ k := S_of (by
 simp only [effD, hx, hm, loadM0, ev_load_ptr, Hp_get j ok hj hi, hp, OptP_some]; exact hk)
theorem S_st {O : List (Nat × AObj)} {i off j : Nat} {cs cs' : List D} {v : D} (ok : OK h O) (hx : opL n l x = .ptr i off) (hy : opL n l y = v) (hj : O[j]? = some (i, .cells cs)) (hi : i ≠ 0) (h1 : v.lay = true) (h2 : szD P t = some v.cells.length)
  (h3 : Nat.ble (off + v.cells.length) cs.length = true) (h4 : putAt cs off v.cells = cs') (hk : OK h (O.set j (i, .cells cs')) → seqQ P md w ops os ⟨mkSl n l, Hp h (O.set j (i, .cells cs'))⟩ k) :
  seqQ P md w ops (⟨none, .store t x y, ty, pos, af, none⟩ :: os) ⟨mkSl n l, Hp h O⟩ k := S_ofN (by
 obtain ⟨e1, e2⟩ := Hp_set (y := .cells cs') j ok hj hi
 subst hy h4
 simp only [effD, hx, storeD, Hp_get j ok hj hi]
 exact ⟨h1, h2, Nat.le_of_ble_eq_true h3, by rw [e1]; exact hk e2⟩)
theorem S_ix {α : Type} {q r : Nat} {c : α → List D} {L : List α} {K : IntKind} {i : Int} {e : TypeId} {f : α → Option β} (hx : opL n l x = .sl q (L.map c) r) (hy : opL n l y = .int K i) (hs : slD P t = some e) (hq : szD P e = some q)
  (hF : OptP ((idx L i).bind f) G) (hk : ∀ a, idx L i = some a → OptP (f a) G → seqQ P md w ops os ⟨mkSl n ((d, .iptr (c a)) :: l), h⟩ k) : seqQ P md w ops (⟨some d, .indexAddr t x y, ty, pos, af, none⟩ :: os) ⟨mkSl n l, h⟩ k := S_of (by
 obtain ⟨a, ha, hF⟩ := F_bind hF
 have ha' := ha
 unfold idx at ha'
 split at ha'
 ·rename_i h0
  obtain ⟨hlt, he⟩ := List.getElem?_eq_some_iff.1 ha'
  have hlt' : i < (L.length : Int) := by omega
  have hg : (L.map c).getD i.toNat [] = c a := by simp [List.getD, ha']
  simp only [effD, hx, hy, ev_ix_sl, hs, Option.bind_some, hq, List.length_map, h0, hlt', true_and, if_true, OptP_some, hg]
  exact hk a ha hF
 ·simp at ha')
theorem S_ixS {K : IntKind} {i : Int} {a : List UInt8} {f : UInt8 → Option β} (hx : opL n l x = .str a) (hy : opL n l y = .int K i) (hs : stD P t = true)
  (hF : OptP ((idx a i).bind f) G) (hk : ∀ b, idx a i = some b → OptP (f b) G → seqQ P md w ops os ⟨mkSl n ((d, .int .u8 (b.toNat : Int)) :: l), h⟩ k) : seqQ P md w ops (⟨some d, .index t x y, ty, pos, af, none⟩ :: os) ⟨mkSl n l, h⟩ k := S_of (by
 obtain ⟨b, hb, hF⟩ := F_bind hF
 have ha' := hb
 unfold idx at ha'
 split at ha'
 ·rename_i h0
  obtain ⟨hlt, he⟩ := List.getElem?_eq_some_iff.1 ha'
  have hlt' : i < (a.length : Int) := by omega
  have hg : a.getD i.toNat 0 = b := by simp [List.getD, ha']
  simp only [effD, hx, hy, ev_ix_str, hs, h0, hlt', true_and, if_true, OptP_some, hg]
  exact hk b hb hF
 ·simp at ha')
theorem slc_spec {α : Type} {L : List α} {i j : Int} {a : List α} (h : slc L i j = some a) : (0 ≤ i ∧ i ≤ j ∧ j ≤ (L.length : Int)) ∧ a = (L.drop i.toNat).take (j.toNat - i.toNat) := by
 unfold slc at h
 split at h
 ·rename_i hc; injection h with h; exact ⟨hc, h.symm⟩
 ·simp at h
theorem S_slS {a : List UInt8} {lo hi : Option Operand} {i j : Int} {f : List UInt8 → Option β} (hx : opL n l x = .str a) (hs : stD P t = true) (h1 : boundD (lo.map (opL n l)) 0 = some i) (h2 : boundD (hi.map (opL n l)) a.length = some j)
  (hF : OptP ((slc a i j).bind f) G) (hk : ∀ b, slc a i j = some b → OptP (f b) G → seqQ P md w ops os ⟨mkSl n ((d, .str b) :: l), h⟩ k) : seqQ P md w ops (⟨some d, .slice t x lo hi none, ty, pos, af, none⟩ :: os) ⟨mkSl n l, h⟩ k := S_of (by
 obtain ⟨b, hb, hF⟩ := F_bind hF
 obtain ⟨hc, he⟩ := slc_spec hb
 simp only [effD, hx, ev_slice_str, hs, h1, h2, if_true, if_pos hc, OptP_some, ← he]
 exact hk b hb hF)
theorem S_slL {α : Type} {q r : Nat} {c : α → List D} {L : List α} {e : TypeId} {lo hi : Option Operand} {i j : Int} {f : List α → Option β} (hx : opL n l x = .sl q (L.map c) r) (hs : slD P t = some e) (hq : szD P e = some q)
  (h1 : boundD (lo.map (opL n l)) 0 = some i) (h2 : boundD (hi.map (opL n l)) (L.map c).length = some j)
  (hF : OptP ((slc L i j).bind f) G) (hk : ∀ b, slc L i j = some b → OptP (f b) G → seqQ P md w ops os ⟨mkSl n ((d, .sl q (b.map c) 0) :: l), h⟩ k) : seqQ P md w ops (⟨some d, .slice t x lo hi none, ty, pos, af, none⟩ :: os) ⟨mkSl n l, h⟩ k := S_of (by
 obtain ⟨b, hb, hF⟩ := F_bind hF
 obtain ⟨hc, he⟩ := slc_spec hb
 have hc' : 0 ≤ i ∧ i ≤ j ∧ j ≤ ((L.map c).length : Int) := by simpa using hc
 have e1 : ((L.map c).drop i.toNat).take (j.toNat - i.toNat) = b.map c := by rw [he, List.map_take, List.map_drop]
 simp only [effD, hx, ev_slice_sl, hs, Option.bind_some, hq, h1, h2, if_true, if_pos hc', OptP_some, e1]
 exact hk b hb hF)
theorem bd_no {a : Nat} : boundD ((none : Option Operand).map (opL n l)) a = some (a : Int) := rfl
theorem bd_at {a : Nat} {K : IntKind} {i : Int} (hy : opL n l y = .int K i) : boundD ((some y).map (opL n l)) a = some i := by
 simp only [Option.map_some, hy]; rfl
theorem bd_len {α : Type} {c : α → List D} {L : List α} : boundD ((none : Option Operand).map (opL n l)) (L.map c).length = some (L.length : Int) := by
 simp [boundD]
theorem S_box1 {O : List (Nat × AObj)} {v : D} {cs : List D} (ok : OK h O) (hm : md d = 1) (hx : opL n l x = v) (h1 : v.lay = true) (h2 : v.cells = cs)
  (hk : ∀ i, i ≠ 0 → OK h ((i, .cells cs) :: O) → seqQ P md w ops os ⟨mkSl n ((d, .ptr i 0) :: l), Hp h ((i, .cells cs) :: O)⟩ k) : seqQ P md w ops (⟨some d, .box t x, ty, pos, af, none⟩ :: os) ⟨mkSl n l, Hp h O⟩ k := S_of (by
 subst hx h2
 simp only [effD, hm, ev_box1]
 refine ⟨h1, fun i hf hi => ?_⟩
 obtain ⟨e1, e2⟩ := Hp_new (x := .cells (opL n l x).cells) ok hf hi
 rw [e1]; exact hk i hi e2)
theorem S_box0 {v : D} {cs : List D} (hm : md d = 0) (hx : opL n l x = v) (h1 : v.lay = true) (h2 : v.cells = cs)
  (hk : seqQ P md w ops os ⟨mkSl n ((d, .iptr cs) :: l), h⟩ k) : seqQ P md w ops (⟨some d, .box t x, ty, pos, af, none⟩ :: os) ⟨mkSl n l, h⟩ k := S_of (by
 subst hx h2
 simp only [effD, hm, ev_box0]
 exact ⟨h1, hk⟩)
theorem S_all1 {O : List (Nat × AObj)} {cs : List D} (ok : OK h O) (hm : md d = 1) (hz : zcD P t = some cs)
  (hk : ∀ i, i ≠ 0 → OK h ((i, .cells cs) :: O) → seqQ P md w ops os ⟨mkSl n ((d, .ptr i 0) :: l), Hp h ((i, .cells cs) :: O)⟩ k) : seqQ P md w ops (⟨some d, .alloc t, ty, pos, af, none⟩ :: os) ⟨mkSl n l, Hp h O⟩ k := S_of (by
 simp only [effD, hm, hz, OptP_some, ev_box1]
 intro i hf hi
 obtain ⟨e1, e2⟩ := Hp_new (x := .cells cs) ok hf hi
 rw [e1]; exact hk i hi e2)
theorem S_bld {ps : Array (Nat × Operand)} {v : D} (hb : buildD P t (ps.toList.map fun p => (p.1, opL n l p.2)) = some v) (hk : seqQ P md w ops os ⟨mkSl n ((d, v) :: l), h⟩ k) : seqQ P md w ops (⟨some d, .build t ps, ty, pos, af, none⟩ :: os) ⟨mkSl n l, h⟩ k := S_of (by
 simp only [effD, hb, OptP_some]; exact hk)
theorem b_st {z cs : List D} {pl : List (Nat × Nat)} {parts : List (Nat × D)} (hz : zcD P t = some z) (hp : plD P t = some pl) (hf : fillD (fun i => pl[i]?) z parts = some cs) : buildD P t parts = some (.agg cs) := by
 simp only [buildD, hz, hp, hf]; rfl
theorem S_lit2 {O : List (Nat × AObj)} {ps : Array (Nat × Operand)} {m q B : Nat} {zs cs : List D} {es : List (List D)} (ok : OK h O) (hm : md d = 2) (he : elD P t = some (q, B, zs)) (hn : Nat.ble (m * q) 16777216 = true)
  (hf : fillD (fun i => some (i * q, q)) (List.replicate m zs).flatten (ps.toList.map fun p => (p.1, opL n l p.2)) = some cs) (hc : chunks q m cs = es)
  (hk : ∀ r, r ≠ 0 → OK h ((r, .room) :: O) → seqQ P md w ops os ⟨mkSl n ((d, .sl q es r) :: l), Hp h ((r, .room) :: O)⟩ k) : seqQ P md w ops (⟨some d, .buildSlice t m ps, ty, pos, af, none⟩ :: os) ⟨mkSl n l, Hp h O⟩ k := S_of (by
 subst hc
 simp only [effD, litD, he, hm, hf, ev_grow2]
 refine ⟨Nat.le_of_ble_eq_true hn, fun r hfr hr => ?_⟩
 obtain ⟨e1, e2⟩ := Hp_new (x := .room) ok hfr hr
 rw [e1]; exact hk r hr e2)
theorem S_lit0 {ps : Array (Nat × Operand)} {m q B : Nat} {zs cs : List D} {es : List (List D)} (hm : md d = 0) (he : elD P t = some (q, B, zs)) (hn : Nat.ble (m * q) 16777216 = true)
  (hf : fillD (fun i => some (i * q, q)) (List.replicate m zs).flatten (ps.toList.map fun p => (p.1, opL n l p.2)) = some cs) (hc : chunks q m cs = es)
  (hk : seqQ P md w ops os ⟨mkSl n ((d, .sl q es 0) :: l), h⟩ k) : seqQ P md w ops (⟨some d, .buildSlice t m ps, ty, pos, af, none⟩ :: os) ⟨mkSl n l, h⟩ k := S_of (by
 subst hc
 simp only [effD, litD, he, hm, hf, ev_grow0]
 exact ⟨Nat.le_of_ble_eq_true hn, hk⟩)
theorem S_app {O : List (Nat × AObj)} {α : Type} {q r r2 j B : Nat} {zs : List D} {c : α → List D} {L M : List α} {u : TypeId} {f : List α → Option β} (ok : OK h O) (hm : md d = 2) (hx : opL n l x = .sl q (L.map c) r) (hy : opL n l y = .sl q (M.map c) r2)
  (hj : O[j]? = some (r, .room)) (hr : r ≠ 0) (he : elD P t = some (q, B, zs)) (hu : notIntD P u = true) (hF : OptP ((app B L M).bind f) G)
  (hk : ∀ r', r' ≠ 0 → OK h (O.set j (r', .room)) → OptP (f (L ++ M)) G → seqQ P md w ops os ⟨mkSl n ((d, .sl q ((L ++ M).map c) r') :: l), Hp h (O.set j (r', .room))⟩ k) :
  seqQ P md w ops (⟨some d, .call ⟨.builtin .append, #[x, y], #[t, u]⟩, ty, pos, af, none⟩ :: os) ⟨mkSl n l, Hp h O⟩ k := S_of (by
 obtain ⟨v, hv, hF⟩ := F_bind hF
 unfold app at hv
 split at hv
 ·rename_i hc
  injection hv with hv; subst hv
  simp only [effD, builtD, List.map_cons, List.map_nil, hx, hy, hm, appendD, he, srcD, if_true, hu, true_and, List.length_map, Hp_get j ok hj hr, ev_grow2]
  refine ⟨hc.1, hc.2, by decide, fun r' hf hr' => ?_⟩
  obtain ⟨e1, e2⟩ := Hp_rel j ok hj hr
  rw [e1]
  have hf' : Hp h (O.set j (0, .room)) r' = none := by
   rw [← e1]
   by_cases e : r' = r
   ·subst e; exact Heap.upd_same ..
   ·rw [Heap.upd_ne _ _ e]; exact hf
  obtain ⟨hlt, _⟩ := List.getElem?_eq_some_iff.1 hj
  obtain ⟨e3, e4⟩ := Hp_fill (x := .room) j e2 (by simp [hlt]) hr' hf'
  rw [e3, List.set_set] at *
  rw [← List.map_append]
  exact hk r' hr' e4 hF
 ·simp at hv)
theorem CallsA.arg {f : FuncId} {ds0 ds : List D} {h : Heap} {R : D → Heap → Prop} (hw : WdC ds0 ds) (c : CallsA P f ds h R) : CallsA P f ds0 h R :=
 c.imp (fun c => ⟨c.1, fun K w vs H hl hv => c.2 K w vs H (hl.trans hw.l) fun i => (hw.c i).rel (hv i)⟩) fun c K w vs H hl hv => c K w vs H (hl.trans hw.l) fun i => (hw.c i).rel (hv i)
theorem CallsA.ret {f : FuncId} {ds : List D} {h : Heap} {R : D → Heap → Prop} (c : CallsA P f ds h fun d h' => ∃ d2 h2, Wd d d2 ∧ WH h' h2 ∧ R d2 h2) : CallsA P f ds h R :=
 c.imp (fun c => ⟨c.1, fun K w vs H hl hv => (c.2 K w vs H hl hv).mono fun e w' ⟨v, d, K', h', a, b, cc, dd, d2, h2, w1, w2, r⟩ => ⟨v, d2, K', h2, a, b, cc.weaken w2, w1.rel dd, r⟩⟩)
  fun c K w vs H hl hv => let ⟨v, w', d, K', h', a, b, cc, dd, d2, h2, w1, w2, r⟩ := c K w vs H hl hv; ⟨v, w', d2, K', h2, a, b, cc.weaken w2, w1.rel dd, r⟩
theorem S_call {g : FuncId} {args : Array Operand} {ts : Array TypeId} {ds : List D} (hc : CallsA P g ds h fun v h' => seqQ P md w ops os ⟨mkSl n ((d, v) :: l), h'⟩ k) (hw : WdC (args.toList.map (opL n l)) ds) :
  seqQ P md w ops (⟨some d, .call ⟨.value (.func g), args, ts⟩, ty, pos, af, none⟩ :: os) ⟨mkSl n l, h⟩ k := S_of (by
 have := hc.arg hw
 simpa only [effD, opL, List.nil_append, List.append_nil] using this)
theorem OK.wh {O : List (Nat × AObj)} (ok : OK h O) : WH (Hp h O) h := by
 have : ∀ O : List (Nat × AObj), WO O [] := fun O => by induction O with | nil => exact .nil | cons p O ih => exact .drop ih
 exact ((this O).spec ok).2.2
inductive RV (P : Program) (n : Nat) (l : List (Nat × D)) (h : Heap) : List ResultVar → List D → Prop
 | nil : RV P n l h [] []
 | tmp {t : Nat} {v : D} {rs : List ResultVar} {vs : List D} (hx : opL n l (.tmp t) = v) (r : RV P n l h rs vs) : RV P n l h (.tmp t :: rs) (v :: vs)
 | cell {a : Nat} {t : TypeId} {p v : D} {rs : List ResultVar} {vs : List D} (hx : opL n l (.tmp a) = p) (hl : loadD P h t p = some v) (r : RV P n l h rs vs) : RV P n l h (.cell a t :: rs) (v :: vs)
theorem RV.spec : ∀ {rs : List ResultVar} {vs : List D}, RV P n l h rs vs → rs.mapM (resD P ⟨mkSl n l, h⟩) = some vs
 | _, _, .nil => rfl
 | _, _, .tmp (t := t) hx r => by
  have : (mkSl n l).getD t .any = opL n l (.tmp t) := congrFun (opL_eq n l) (.tmp t)
  simp only [List.mapM_cons, resD, this, hx, r.spec]; rfl
 | _, _, .cell (a := a) hx hl r => by
  have : (mkSl n l).getD a .any = opL n l (.tmp a) := congrFun (opL_eq n l) (.tmp a)
  simp only [List.mapM_cons, resD, this, hx, hl, r.spec]; rfl
theorem ld_ptr {O : List (Nat × AObj)} {i off j : Nat} {cs : List D} {v : D} (ok : OK h O) (hj : O[j]? = some (i, .cells cs)) (hi : i ≠ 0) (hp : partD P t (cs.drop off) = some v) : loadD P (Hp h O) t (.ptr i off) = some v := by
 rw [ev_load_ptr, Hp_get j ok hj hi]; exact hp
theorem C_ret {fn : Func} {rs : List ResultVar} {vs : List D} {R : D → Heap → Prop} (hr : fn.results.toList = rs) (hv : RV P n l h rs vs) (hR : R (oneOf vs) h) : RetP P fn R .ret ⟨mkSl n l, h⟩ := by
 show OptP (fn.results.toList.mapM (resD P ⟨mkSl n l, h⟩)) fun l => R (oneOf l) h
 rw [hr, hv.spec, OptP_some]; exact hR
def argL : Nat → List D → List (Nat × D)
 | _, [] => []
 | i, d :: ds => (i, d) :: argL (i + 1) ds
theorem look_arg : ∀ (ds : List D) (i t : Nat), look (argL i ds) t = if i ≤ t then ds.getD (t - i) .any else .any
 | [], i, t => by simp [argL, look]
 | d :: ds, i, t => by
  show (match Nat.beq i t with | true => d | false => look (argL (i + 1) ds) t) = _
  cases hb : Nat.beq i t with
  | true => rw [Nat.beq_eq] at hb; subst hb; simp
  | false =>
   have hne : i ≠ t := fun e => by rw [e, Nat.beq_refl] at hb; simp at hb
   simp only [look_arg ds (i + 1) t]
   by_cases h1 : i ≤ t
   ·have e : t - i = (t - (i + 1)) + 1 := by omega
    rw [if_pos h1, if_pos (by omega), e]; simp
   ·rw [if_neg h1, if_neg (by omega)]
theorem arg_mk (ds : List D) (m : Nat) : ds ++ List.replicate m .any = mkSl (ds.length + m) (argL 0 ds) := by
 refine List.ext_getElem? fun j => ?_
 by_cases hj : j < ds.length + m
 ·simp only [mkSl, List.getElem?_map, List.getElem?_range hj, Option.map_some, look_arg]
  by_cases h1 : j < ds.length
  ·rw [List.getElem?_append_left h1]; simp [List.getD, h1]
  ·rw [List.getElem?_append_right (by omega), List.getElem?_replicate, if_pos (by omega)]
   simp [List.getD, h1]
 ·rw [List.getElem?_eq_none (by simp; omega), List.getElem?_eq_none (by simp [mkSl]; omega)]
theorem C_body {f : FuncId} {fn : Func} {c : Code} {args : List D} {h : Heap} {R : D → Heap → Prop} {N : Nat} (hf : P.funcs[f]? = some fn) (hb : fn.body = some c) (he : entD P f = true) (hn : fn.ntmps = N) (ha : args.length + (N - args.length) = N)
  (hw : OK h [] → WP P c (RetP P fn R) ⟨mkSl N (argL 0 args), Hp h []⟩) : CallsA P f args h R := by
 refine CallsA_body hf hb he ?_
 rw [hn, arg_mk, ha]; exact hw trivial
def c_i8 (n : Int) : List D := [.int .i8 n]
def c_i16 (n : Int) : List D := [.int .i16 n]
def c_i32 (n : Int) : List D := [.int .i32 n]
def c_i64 (n : Int) : List D := [.int .i64 n]
def c_u16 (n : Int) : List D := [.int .u16 n]
def c_u32 (n : Int) : List D := [.int .u32 n]
def c_u64 (n : Int) : List D := [.int .u64 n]
def c_bool (b : Bool) : List D := [.bool b]
def c_str (x : List UInt8) : List D := [.str x]
def c_f64 (n : Nat) : List D := [.float .f64 n]
def c_cplx (n : Nat × Nat) : List D := [.cplx .f64 n.1 n.2]
def c_sl {α : Type} (q : Nat) (c : α → List D) (l : List α) : List D := [.sl q (l.map c) 0]
def iand (k : IntKind) (a b : Int) : Int := k.wrap ((BitVec.ofInt k.bits a &&& BitVec.ofInt k.bits b).toNat : Int)
def ior (k : IntKind) (a b : Int) : Int := k.wrap ((BitVec.ofInt k.bits a ||| BitVec.ofInt k.bits b).toNat : Int)
def ixor (k : IntKind) (a b : Int) : Int := k.wrap ((BitVec.ofInt k.bits a ^^^ BitVec.ofInt k.bits b).toNat : Int)
def iandNot (k : IntKind) (a b : Int) : Int := k.wrap ((BitVec.ofInt k.bits a &&& ~~~(BitVec.ofInt k.bits b)).toNat : Int)
def ishl (k : IntKind) (a b : Int) : Int := k.wrap (a * 2 ^ (min b.toNat k.bits))
def ishr (k : IntKind) (a b : Int) : Int := a.fdiv (2 ^ (min b.toNat k.bits))
def ngI (b : Int) : Option Int := if b < 0 then none else some b
theorem e_or {K : IntKind} {a b : Int} : binD P h .or t (.int K a) (.int K b) = some (.int K (ior K a b)) := ev_or ..
theorem S_in {dst : Option Nat} {op : Op} {s : St} (hk : seqQ P md false ops [⟨dst, op, ty, pos, af, none⟩] s fun s' => seqQ P md w ops os s' k) : stepG P N0 md ops ⟨dst, op, ty, pos, af, none⟩ s fun s' => seqQ P md w ops os s' k := stepG_mono hk.2 fun _ h => h.2
theorem u8_spec {i : Int} {b : UInt8} (h : u8 i = some b) : (b.toNat : Int) = i := by
 unfold u8 at h
 split at h
 ·rename_i hc
  injection h with h; subst h
  have : i.toNat < 256 := by omega
  rw [UInt8.toNat_ofNat']
  rw [Nat.mod_eq_of_lt (by simpa using this)]; omega
 ·simp at h
theorem S_byt0 {u e : TypeId} {a : List UInt8} (hm : md d = 0) (hx : opL n l x = .str a) (hs : slD P u = some e) (ht : stD P t = true) (he : kiD P e = some .u8) (hk : seqQ P md w ops os ⟨mkSl n ((d, .sl 1 (a.map c_u8) 0) :: l), h⟩ k) :
  seqQ P md w ops (⟨some d, .convert t u x, ty, pos, af, none⟩ :: os) ⟨mkSl n l, h⟩ k := S_of (by
 simp only [effD, hs, hx, bytD, ht, he, hm, true_and]
 exact ⟨fun h0 => absurd h0 (by decide), fun _ => hk⟩)
theorem S_appX {O : List (Nat × AObj)} {α : Type} {q r j B : Nat} {zs : List D} {c : α → List D} {L M : List α} {u : TypeId} {f : List α → Option β} (ok : OK h O) (hm : md d = 2) (hx : opL n l x = .sl q (L.map c) r) (hy : ∀ hh, srcD hh q (opL n l y) = some (M.map c))
  (hj : O[j]? = some (r, .room)) (hr : r ≠ 0) (he : elD P t = some (q, B, zs)) (hu : notIntD P u = true) (hF : OptP ((app B L M).bind f) G)
  (hk : ∀ r', r' ≠ 0 → OK h (O.set j (r', .room)) → OptP (f (L ++ M)) G → seqQ P md w ops os ⟨mkSl n ((d, .sl q ((L ++ M).map c) r') :: l), Hp h (O.set j (r', .room))⟩ k) :
  seqQ P md w ops (⟨some d, .call ⟨.builtin .append, #[x, y], #[t, u]⟩, ty, pos, af, none⟩ :: os) ⟨mkSl n l, Hp h O⟩ k := S_of (by
 obtain ⟨v, hv, hF⟩ := F_bind hF
 unfold app at hv
 split at hv
 ·rename_i hc
  injection hv with hv; subst hv
  simp only [effD, builtD, List.map_cons, List.map_nil, hx, hy, hm, appendD, he, hu, true_and, List.length_map, Hp_get j ok hj hr, ev_grow2]
  refine ⟨hc.1, hc.2, by decide, fun r' hf hr' => ?_⟩
  obtain ⟨e1, e2⟩ := Hp_rel j ok hj hr
  rw [e1]
  have hf' : Hp h (O.set j (0, .room)) r' = none := by
   rw [← e1]
   by_cases e : r' = r
   ·subst e; exact Heap.upd_same ..
   ·rw [Heap.upd_ne _ _ e]; exact hf
  obtain ⟨hlt, _⟩ := List.getElem?_eq_some_iff.1 hj
  obtain ⟨e3, e4⟩ := Hp_fill (x := .room) j e2 (by simp [hlt]) hr' hf'
  rw [e3, List.set_set] at *
  rw [← List.map_append]
  exact hk r' hr' e4 hF
 ·simp at hv)
theorem S_appS {O : List (Nat × AObj)} {r j B : Nat} {zs : List D} {L M : List UInt8} {u : TypeId} {f : List UInt8 → Option β} (ok : OK h O) (hm : md d = 2) (hx : opL n l x = .sl 1 (L.map c_u8) r) (hy : opL n l y = .str M)
  (hj : O[j]? = some (r, .room)) (hr : r ≠ 0) (he : elD P t = some (1, B, zs)) (hu : notIntD P u = true) (hF : OptP ((app B L M).bind f) G)
  (hk : ∀ r', r' ≠ 0 → OK h (O.set j (r', .room)) → OptP (f (L ++ M)) G → seqQ P md w ops os ⟨mkSl n ((d, .sl 1 ((L ++ M).map c_u8) r') :: l), Hp h (O.set j (r', .room))⟩ k) :
  seqQ P md w ops (⟨some d, .call ⟨.builtin .append, #[x, y], #[t, u]⟩, ty, pos, af, none⟩ :: os) ⟨mkSl n l, Hp h O⟩ k :=
 S_appX ok hm hx (fun hh => by rw [hy]; rfl) hj hr he hu hF hk
end
theorem C_tt {P : Program} {Q : Exit → St → Prop} {n : Nat} {l : List (Nat × D)} {h : Heap} {c : Operand} {x y : Code} {b : Bool} (hc : opL n l c = .bool b) (hb : b = true) (hT : WP P x Q ⟨mkSl n l, h⟩) : WP P (.cond c x y) Q ⟨mkSl n l, h⟩ := by
 refine WP_cond ?_
 show condP (opD (mkSl n l) c) _ _
 rw [opL_eq, hc, hb]; exact hT
theorem C_ff {P : Program} {Q : Exit → St → Prop} {n : Nat} {l : List (Nat × D)} {h : Heap} {c : Operand} {x y : Code} {b : Bool} (hc : opL n l c = .bool b) (hb : b = false) (hE : WP P y Q ⟨mkSl n l, h⟩) : WP P (.cond c x y) Q ⟨mkSl n l, h⟩ := by
 refine WP_cond ?_
 show condP (opD (mkSl n l) c) _ _
 rw [opL_eq, hc, hb]; exact hE
theorem Exit.sel_ret {A : St → Prop} {Q : Exit → St → Prop} {s : St} (h : Q .ret s) : Exit.sel A Q .ret s := h
theorem Exit.blk_ret {i : Nat} {Q : Exit → St → Prop} {s : St} (h : Q .ret s) : Exit.blk i Q .ret s := h
end Go.Proofs.YtfokkdofcekdbaaGreatDoor
