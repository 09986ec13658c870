/- The bytes of a text as an own row. No condition. -/
import Derived.Test.YtfokkdofcekdbaaGreatDoorEng32
set_option linter.unusedSimpArgs false
set_option linter.unusedVariables false
namespace Go.Proofs.YtfokkdofcekdbaaGreatDoor
def moY {α : Type} (id : Nat) (c : α → List D) (e : List α) : Nat × AObj := match id with
 | 0 => (0, .room)
 | i + 1 => (i + 1, .bytes (fl c e))
theorem moY_pos {α : Type} {c : α → List D} {id : Nat} {e : List α} (h : id ≠ 0) : moY id c e = (id, .bytes (fl c e)) := by cases id with | zero => exact absurd rfl h | succ i => rfl
theorem slD_of_st {P : Program} {t : TypeId} (h : stD P t = true) : slD P t = none := by
 unfold stD at h; unfold slD
 cases hu : P.underlying t with
 | none => rfl
 | some x => rw [hu] at h; cases x <;> first | rfl | cases h
theorem fl_byte (e : List UInt8) : e.map byteD = fl c_u8 e := by
 unfold fl
 induction e with
 | nil => rfl
 | cons b e ih => simp only [List.map_cons, List.flatten_cons, ih]; rfl
theorem chunks_one (e : List UInt8) : chunks 1 e.length (fl c_u8 e) = e.map c_u8 := chunks_fl (q := 1) (fun _ => rfl) e
section
variable {P : Program} {md : Nat → Nat} {w : Bool} {ops : Array Oper} {os : List Oper} {k : St → Prop} {n : Nat} {l : List (Nat × D)} {h : Heap} {d : Nat} {t ty : TypeId} {pos : String} {af : Array Edge} {x y z : Operand}
variable {β : Type} {G : β → Prop} {O : List (Nat × AObj)}
theorem S_ldY {α : Type} {q id off f0 j : Nat} {c : α → List D} {e : List α} {i : Int} {a : α} {v : D} (ok : OK h O) (hm : md d = 0) (hx : opL n l x = .ptr id off) (hj : O[j]? = some (id, .bytes (fl c e))) (hid : id ≠ 0) (hc : ∀ a, (c a).length = q)
  (hi : idx e i = some a) (ho : off = i.toNat * q + f0) (hle : Nat.ble f0 q = true) (hp : partD P t ((c a).drop f0) = some v)
  (hk : seqQ P md w ops os ⟨mkSl n ((d, v) :: l), Hp h O⟩ k) : seqQ P md w ops (⟨some d, .load t x, ty, pos, af, none⟩ :: os) ⟨mkSl n l, Hp h O⟩ k := S_of (by
 obtain ⟨_, h1, _⟩ := idx_get hi
 obtain ⟨h2, h3⟩ := fl_split hc h1
 have e1 : (fl c e).drop off = (c a).drop f0 ++ fl c (e.drop (i.toNat + 1)) := by
  rw [h2, ho, ← h3, List.drop_length_add_append, List.drop_append_of_le_length (by rw [hc]; exact Nat.le_of_ble_eq_true hle)]
 simp only [effD, hx, hm, loadM0, ev_load_ptr, Hp_get j ok hj hid, e1, part_app hp, OptP_some]; exact hk)
theorem S_stY {α : Type} {q id off f0 j : Nat} {c : α → List D} {e : List α} {i : Int} {a b : α} {v : D} (ok : OK h O) (hx : opL n l x = .ptr id off) (hy : opL n l y = v) (hj : O[j]? = some (id, .bytes (fl c e))) (hid : id ≠ 0) (hc : ∀ a, (c a).length = q)
  (hi : idx e i = some a) (ho : off = i.toNat * q + f0) (h1 : v.lay = true) (h2 : szD P t = some v.cells.length) (hle : Nat.ble (f0 + v.cells.length) q = true) (hb : putAt (c a) f0 v.cells = c b)
  (hk : OK h (O.set j (id, .bytes (fl c (e.set i.toNat b)))) → seqQ P md w ops os ⟨mkSl n l, Hp h (O.set j (id, .bytes (fl c (e.set i.toNat b))))⟩ k) :
  seqQ P md w ops (⟨none, .store t x y, ty, pos, af, none⟩ :: os) ⟨mkSl n l, Hp h O⟩ k := S_ofN (by
 obtain ⟨_, g1, _⟩ := idx_get hi
 obtain ⟨g2, g3⟩ := fl_split hc g1
 have hle' := Nat.le_of_ble_eq_true hle
 have hca := hc a
 have e1 : putAt (fl c e) off v.cells = fl c (e.set i.toNat b) := by
  rw [fl_set hc g1, ← hb, g2]
  unfold putAt
  rw [ho]
  have t1 : (fl c (e.take i.toNat) ++ (c a ++ fl c (e.drop (i.toNat + 1)))).take (i.toNat * q + f0) = fl c (e.take i.toNat) ++ (c a).take f0 := by
   rw [← g3, List.take_length_add_append, List.take_append_of_le_length (by omega)]
  have t2 : (fl c (e.take i.toNat) ++ (c a ++ fl c (e.drop (i.toNat + 1)))).drop (i.toNat * q + f0 + v.cells.length) = (c a).drop (f0 + v.cells.length) ++ fl c (e.drop (i.toNat + 1)) := by
   rw [Nat.add_assoc, ← g3, List.drop_length_add_append, List.drop_append_of_le_length (by omega)]
  rw [t1, t2]; simp
 have e2 : off + v.cells.length ≤ (fl c e).length := by
  rw [g2, ho]; simp only [List.length_append, g3, hca]; omega
 obtain ⟨e3, e4⟩ := Hp_set (y := .bytes (fl c (e.set i.toNat b))) j ok hj hid
 subst hy
 simp only [effD, hx, storeD, Hp_get j ok hj hid]
 refine ⟨h1, h2, e2, ?_⟩
 rw [e1, e3]; exact hk e4)
theorem S_bytM {u et : TypeId} {a : List UInt8} (ok : OK h O) (hm : md d = 1) (hx : opL n l x = .str a) (hs : slD P u = some et) (ht : stD P t = true) (he : kiD P et = some .u8)
  (hk : ∀ i, (i = 0 → a = []) → OK h (moY i c_u8 a :: O) → seqQ P md w ops os ⟨mkSl n ((d, mslO 1 i a) :: l), Hp h (moY i c_u8 a :: O)⟩ k) :
  seqQ P md w ops (⟨some d, .convert t u x, ty, pos, af, none⟩ :: os) ⟨mkSl n l, Hp h O⟩ k := S_of (by
 simp only [effD, hs, hx, bytD, ht, he, hm, true_and]
 refine ⟨fun _ i hf hi => ?_, fun h0 => absurd rfl h0⟩
 obtain ⟨e1, e2⟩ := Hp_new (x := .bytes (a.map byteD)) ok hf hi
 rw [e1]
 rw [fl_byte] at e2 ⊢
 have := hk i (fun h0 => absurd h0 hi) (by rw [moY_pos hi]; exact e2)
 rw [mslO_pos hi, moY_pos hi] at this
 exact this)
theorem S_cvY {s et : TypeId} {id j : Nat} {e : List UInt8} (ok : OK h O) (hz : id = 0 → e = []) (hx : opL n l x = mslO 1 id e) (hj : O[j]? = some (moY id c_u8 e)) (hs : slD P s = some et) (he : kiD P et = some .u8) (ht : stD P t = true) (hn : slD P t = none)
  (hk : seqQ P md w ops os ⟨mkSl n ((d, .str e) :: l), Hp h O⟩ k) : seqQ P md w ops (⟨some d, .convert s t x, ty, pos, af, none⟩ :: os) ⟨mkSl n l, Hp h O⟩ k := S_of (by
 cases id with
 | zero =>
  have e1 := hz rfl
  subst e1
  have hx' : opL n l x = .snil := hx
  have hc : convD P (Hp h O) s t .snil = some (.str []) := by rw [ev_conv_nil, hs]; simp [he, ht]
  simp only [effD, hn, hx', hc, OptP_some]
  exact hk
 | succ i =>
  have hx' : opL n l x = .msl 1 (i + 1) 0 e.length := hx
  have hh := Hp_get j ok hj (Nat.succ_ne_zero i)
  have hl : (fl c_u8 e).length = e.length := by rw [fl_length (q := 1) (fun _ => rfl)]; omega
  have hb : bytesOf (chunks 1 e.length (fl c_u8 e)) = some e := by
   rw [chunks_one]
   have := bytesOf_map e
   have e1 : (e.map fun b => [byteD b]) = e.map c_u8 := rfl
   rw [← e1]; exact this
  have hc : convD P (Hp h O) s t (.msl 1 (i + 1) 0 e.length) = some (.str e) := by
   simp only [convD, hs, he, ht, hh, List.drop_zero, Nat.zero_add, and_self, if_true]
   rw [if_pos (by omega), hb]; rfl
  simp only [effD, hn, hx', hc, OptP_some]
  exact hk)
end
section
variable {P : Program} {md : Nat → Nat} {w : Bool} {ops : Array Oper} {os : List Oper} {k : St → Prop} {n : Nat} {l : List (Nat × D)} {h : Heap} {d : Nat} {t ty : TypeId} {pos : String} {af : Array Edge} {x y z : Operand}
variable {β : Type} {G : β → Prop} {O : List (Nat × AObj)} {α : Type} {c : α → List D} {e : List α} {q id : Nat}
theorem S_ldYO {off f0 j : Nat} {i : Int} {a : α} {v : D} (ok : OK h O) (hm : md d = 0) (hz : id = 0 → e = []) (hx : opL n l x = .ptr id off) (hj : O[j]? = some (moY id c e)) (hc : ∀ a, (c a).length = q)
  (hi : idx e i = some a) (ho : off = i.toNat * q + f0) (hle : Nat.ble f0 q = true) (hp : partD P t ((c a).drop f0) = some v)
  (hk : seqQ P md w ops os ⟨mkSl n ((d, v) :: l), Hp h O⟩ k) : seqQ P md w ops (⟨some d, .load t x, ty, pos, af, none⟩ :: os) ⟨mkSl n l, Hp h O⟩ k :=
 have h0 := nz_of hz hi
 S_ldY ok hm hx (by rw [hj, moY_pos h0]) h0 hc hi ho hle hp hk
theorem S_stYO {off f0 j : Nat} {i : Int} {a b : α} {v : D} (ok : OK h O) (hz : id = 0 → e = []) (hx : opL n l x = .ptr id off) (hy : opL n l y = v) (hj : O[j]? = some (moY id c e)) (hc : ∀ a, (c a).length = q)
  (hi : idx e i = some a) (ho : off = i.toNat * q + f0) (h1 : v.lay = true) (h2 : szD P t = some v.cells.length) (hle : Nat.ble (f0 + v.cells.length) q = true) (hb : putAt (c a) f0 v.cells = c b)
  (hk : (id = 0 → e.set i.toNat b = []) → OK h (O.set j (moY id c (e.set i.toNat b))) → seqQ P md w ops os ⟨mkSl n l, Hp h (O.set j (moY id c (e.set i.toNat b)))⟩ k) :
  seqQ P md w ops (⟨none, .store t x y, ty, pos, af, none⟩ :: os) ⟨mkSl n l, Hp h O⟩ k := by
 have h0 := nz_of hz hi
 refine S_stY ok hx hy (by rw [hj, moY_pos h0]) h0 hc hi ho h1 h2 hle hb fun ok' => ?_
 have := hk (fun h => absurd h h0)
 rw [moY_pos h0] at this
 exact this ok'
end
end Go.Proofs.YtfokkdofcekdbaaGreatDoor
