/- Own rows of cells: what is made, filled, appended to, and at last left as it is. No condition. -/
import Derived.Test.YtjofelloaofooaaGreatDoorEng19
set_option linter.unusedSimpArgs false
set_option linter.unusedVariables false
namespace Go.Proofs.YtjofelloaofooaaGreatDoor
def Kn.frz (K : Kn) (w : World) (id n : Nat) : Kn :=
 { K with mu := fun b o => if b = K.io id then (if o < n then w.cell? ⟨b, o, none⟩ else none) else K.mu b o }
theorem HR.frz {K : Kn} {h : Heap} {w : World} (H : HR K h w) {id : Nat} {cs : List D} (hx : h id = some (.cells cs)) : Ext K (K.frz w id cs.length) /\ HR (K.frz w id cs.length) (h.upd id none) w := by
 obtain ⟨hn, hc, _, _⟩ := H.ok id _ hx;have E : Ext K (K.frz w id cs.length) := by
  refine ⟨fun b o v hv => ?_, fun _ _ => rfl, fun _ _ => rfl, fun _ _ => rfl, Nat.le_refl _, rfl, rfl⟩;by_cases e : b = K.io id
  ·have := H.nomu id _ hx b o e; rw [hv] at this; simp at this
  ·simp only [Kn.frz, if_neg e]; exact hv
 have h0 : id ≠ 0 := fun e => by have := H.z; rw [<- e, hx] at this; simp at this
 refine ⟨E, HR.change (C := fun i => i = id) H E (Keep.refl w (fun _ _ => False)) (fun _ _ h => h.elim) (fun j hj => .inl (Heap.upd_ne _ _ hj)) (fun b o v hv => ?_) (by rw [Heap.upd_ne h _ (Ne.symm h0)]; exact H.z) (fun i z hi hz => ?_)⟩
 ·by_cases e : b = K.io id
  ·right;simp only [Kn.frz, if_pos e] at hv;split at hv
   ·rename_i ho;obtain ⟨u, hu, h1, _⟩ := hc o (by omega);rw [<- e, hv] at hu;injection hu with hu
    subst hu;exact ⟨hv, h1, fun j y hj hy hoy => H.sep id j _ y (Ne.symm hj) hx hy b o e hoy⟩
   ·simp at hv
  ·left; simpa only [Kn.frz, if_neg e] using hv
 ·subst hi; rw [Heap.upd_same] at hz; simp at hz
theorem JP {k : Nat} {es : List (List D)} (hk : ∀ r ∈ es, r.length = k) {i j : Nat} (hi : i < es.length) (hj : j < k) : es.flatten.getD (i * k + j) .any = (es.getD i []).getD j .any /\ i * k + j < es.flatten.length := by
 obtain ⟨h1, h2⟩ := BX k es (fun i hi => by simpa [List.getD, hi] using hk _ (bn hi));refine ⟨?_, ?_⟩
 ·rw [h2];have hk0 : 0 < k := by omega
  have e1 : (i * k + j) / k = i := by rw [Nat.add_comm, Nat.add_mul_div_right _ _ hk0, Nat.div_eq_of_lt hj, Nat.zero_add]
  have e2 : (i * k + j) % k = j := by rw [Nat.add_comm, Nat.add_mul_mod_self_right, Nat.mod_eq_of_lt hj]
  rw [e1, e2]
 ·rw [h1];have : i * k + k <= es.length * k := by rw [<- Nat.succ_mul]; exact Nat.mul_le_mul_right _ hi
  omega
theorem VR.frzS {K : Kn} {h : Heap} {w : World} (H : HR K h w) {id k : Nat} {es : List (List D)} (hx : h id = some (.cells es.flatten)) (hk : ∀ r ∈ es, r.length = k) {v : Value} (hv : VR K v (.msl k id 0 es.length)) : VR (K.frz w id es.flatten.length) v (.sl k es 0) := by
 obtain ⟨hn, hc, _, _⟩ := H.ok id _ hx;have E := (H.frz hx).1
 cases hv with
 | msl _ _ _ _ cap hid hcn hcap =>
  refine .sl (K.io id) 0 k es 0 cap (fun i j => (w.cell? ⟨K.io id, i * k + j, none⟩).getD undef) (fun i hi => by simpa [List.getD, hi] using hk _ (bn hi)) (fun i j hi hj => ?_) (fun i j => ?_) hcn (fun h0 => absurd rfl h0)
  ·obtain ⟨e, hlt⟩ := JP hk hi hj;obtain ⟨u, hu, _⟩ := hc (i * k + j) (by omega);simp only [Kn.frz, if_true, Nat.zero_add, if_pos hlt, hu, Option.getD_some]
  ·by_cases hi : i < es.length
   ·by_cases hj : j < k
    ·obtain ⟨e, hlt⟩ := JP hk hi hj;obtain ⟨u, hu, _, hur⟩ := hc (i * k + j) (by omega);rw [<- e, hu, Option.getD_some];exact hur.mono E
    ·have : (es.getD i []).length = k := by simpa [List.getD, hi] using hk _ (bn hi)
     rw [List.getD_eq_getElem?_getD, List.getElem?_eq_none (by omega)]; exact .any _
   ·have : es.getD i [] = [] := by simp [List.getD, Nat.le_of_not_lt hi]
    rw [this]; exact .any _
theorem VR.frzP {K : Kn} {h : Heap} {w : World} (H : HR K h w) {id : Nat} {cs : List D} (hx : h id = some (.cells cs)) {v : Value} (hv : VR K v (.ptr id 0)) : VR (K.frz w id cs.length) v (.iptr cs) := by
 obtain ⟨hn, hc, _, _⟩ := H.ok id _ hx;have E := (H.frz hx).1
 cases hv with
 | ptr _ _ hid =>
  refine .iptr (K.io id) 0 cs (fun i => (w.cell? ⟨K.io id, i, none⟩).getD undef) (fun i hi => ?_) (fun i => ?_)
  ·obtain ⟨u, hu, _⟩ := hc i (by omega);simp only [Kn.frz, if_true, Nat.zero_add, if_pos hi, hu, Option.getD_some]
  ·by_cases hi : i < cs.length
   ·obtain ⟨u, hu, _, hur⟩ := hc i (by omega);rw [hu, Option.getD_some]; exact hur.mono E
   ·rw [List.getD_eq_getElem?_getD, List.getElem?_eq_none (by omega)]; exact .any _
section
variable {P : Program} {md : Nat -> Nat} {w : Bool} {ops : Array Oper} {os : List Oper} {k : St -> Prop} {n : Nat} {l : List (Nat × D)} {h : Heap} {d : Nat} {t ty : TypeId} {pos : String} {af : Array Edge} {x y z : Operand}
variable {β : Type} {G : β -> Prop} {O : List (Nat × AObj)}
theorem Cn_frz {cs : List D} {X : St -> Prop} {old new : D} {id : Nat} (j d : Nat) (ok : OK h O) (hv : Gl l d = old) (hO : O[j]? = some (id, .cells cs)) (hid : id ≠ 0)
  (hV : ∀ (K : Kn) (w : World) (v : Value), HR K (Hp h O) w -> VR K v old -> VR (K.frz w id cs.length) v new)
  (hk : OK h (O.set j (0, .room)) -> X ⟨AH n ((d, new) :: l), Hp h (O.set j (0, .room))⟩) : Cn true ⟨AH n l, Hp h O⟩ X := fun df K a u S => by
 have hx := Hp_get j ok hO hid;obtain ⟨E, H'⟩ := S.h.frz hx;obtain ⟨e1, e2⟩ := Hp_rel j ok hO hid;simp only [e1] at H';refine ⟨K.frz u id cs.length, _, E, ⟨H', S.d, by rw [S.n]; simp [Ei], fun i => ?_⟩, hk e2⟩;have hvi := S.v i;simp only [EN] at hvi ⊢;split
 ·rename_i hi;rw [if_pos hi] at hvi;show VR _ _ (match Nat.beq d i with | true => new | false => Gl l i)
  cases hb : Nat.beq d i with
  | true =>
   rw [Nat.beq_eq] at hb; subst hb;rw [hv] at hvi;exact hV K u _ S.h hvi
  | false => exact hvi.mono E
 ·exact .any _
def fl {α : Type} (c : α -> List D) (e : List α) : List D := (e.map c).flatten
theorem Fp {α : Type} {c : α -> List D} {q : Nat} (hc : ∀ a, (c a).length = q) : ∀ e : List α, (fl c e).length = e.length * q
 | [] => by simp [fl]
 | a :: e => by
  have := Fp hc e;simp only [fl, List.map_cons, List.flatten_cons, bm, hc, bi, Nat.add_mul] at this ⊢;omega
theorem UY {α : Type} {c : α -> List D} (a b : List α) : fl c (a ++ b) = fl c a ++ fl c b := by simp [fl]
theorem MT {α : Type} {c : α -> List D} {q : Nat} (hc : ∀ a, (c a).length = q) {e : List α} {i : Nat} {a : α} (h : e[i]? = some a) : fl c e = fl c (e.take i) ++ (c a ++ fl c (e.drop (i + 1))) /\ (fl c (e.take i)).length = i * q := by
 obtain ⟨hlt, rfl⟩ := List.getElem?_eq_some_iff.1 h;refine ⟨?_, by rw [Fp hc, List.length_take, Nat.min_eq_left (by omega)]⟩;have e1 : e = e.take i ++ (e[i] :: e.drop (i + 1)) := by rw [<- List.drop_eq_getElem_cons hlt, List.take_append_drop]
 have e2 := congrArg (fl c) e1;rw [UY] at e2;exact e2
theorem VF {α : Type} {c : α -> List D} {q : Nat} (hc : ∀ a, (c a).length = q) {e : List α} {i : Nat} {a b : α} (h : e[i]? = some a) : fl c (e.set i b) = fl c (e.take i) ++ (c b ++ fl c (e.drop (i + 1))) := by
 obtain ⟨hlt, rfl⟩ := List.getElem?_eq_some_iff.1 h;rw [List.set_eq_take_append_cons_drop, if_pos hlt];simp [fl]
theorem Qh {cs ds : List D} {v : D} (hp : DR P t cs = some v) : DR P t (cs ++ ds) = some v := by
 unfold DR at hp ⊢;split at hp
 ·split at hp
  ·rename_i m _ hm;rw [if_pos (by simp; omega)];rw [List.take_append_of_le_length hm]; exact hp
  ·simp at hp
 ·cases cs with
  | nil => simp at hp
  | cons a cs => simpa using hp
 ·simp at hp
theorem Mf {α : Type} {e : List α} {i : Int} {a : α} (h : idx e i = some a) : 0 <= i /\ e[i.toNat]? = some a /\ i < (e.length : Int) := by
 unfold idx at h;split at h
 ·rename_i h0;obtain ⟨hlt, _⟩ := List.getElem?_eq_some_iff.1 h;exact ⟨h0, h, by omega⟩
 ·simp at h
theorem W3 {α : Type} {q id : Nat} {c : α -> List D} {e : List α} (j d : Nat) (ok : OK h O) (hv : Gl l d = .msl q id 0 e.length) (hO : O[j]? = some (id, .cells (fl c e))) (hid : id ≠ 0) (hc : ∀ a, (c a).length = q)
  (hk : OK h (O.set j (0, .room)) -> AO P md true ops os ⟨AH n ((d, .sl q (e.map c) 0) :: l), Hp h (O.set j (0, .room))⟩ k) : AO P md true ops os ⟨AH n l, Hp h O⟩ k :=
 VI (Cn_frz j d ok hv hO hid (fun K w v H hV => VR.frzS H (es := e.map c) (Hp_get j ok hO hid) (by simp; exact fun a _ => hc a) (by simpa using hV)) hk)
theorem VW {id : Nat} {cs : List D} (j d : Nat) (ok : OK h O) (hv : Gl l d = .ptr id 0) (hO : O[j]? = some (id, .cells cs)) (hid : id ≠ 0)
  (hk : OK h (O.set j (0, .room)) -> AO P md true ops os ⟨AH n ((d, .iptr cs) :: l), Hp h (O.set j (0, .room))⟩ k) : AO P md true ops os ⟨AH n l, Hp h O⟩ k :=
 VI (Cn_frz j d ok hv hO hid (fun K w v H hV => VR.frzP H (Hp_get j ok hO hid) hV) hk)
def mkG (B : Nat) (a b : Int) : Option Unit := if 0 <= a /\ a <= b /\ b * B <= 140737488355328 /\ b <= 140737488355328 then some () else none
theorem Vu {α : Type} {q id off : Nat} {e : List α} {et : TypeId} (hx : opL n l x = .msl q id off e.length) (ht : slD P t = some et) (hk : AO P md w ops os ⟨AH n ((d, .int .i64 (e.length : Int)) :: l), h⟩ k) :
  AO P md w ops (⟨some d, .call ⟨.builtin .len, #[x], #[t]⟩, ty, pos, af, none⟩ :: os) ⟨AH n l, h⟩ k := E4 (by
 simp only [BB, ES, List.map_cons, List.map_nil, hx, NB, ht, Option.isSome_some, if_true, OptP_some]; exact hk)
theorem XC {α : Type} {q id : Nat} {e : List α} {et : TypeId} {K : IntKind} {i : Int} {f : α -> Option β} (hx : opL n l x = .msl q id 0 e.length) (hy : opL n l y = .int K i) (hs : slD P t = some et) (hq : szD P et = some q)
  (hF : OptP ((idx e i).bind f) G) (hk : ∀ a, idx e i = some a -> OptP (f a) G -> AO P md w ops os ⟨AH n ((d, .ptr id (i.toNat * q)) :: l), h⟩ k) : AO P md w ops (⟨some d, .indexAddr t x y, ty, pos, af, none⟩ :: os) ⟨AH n l, h⟩ k := E4 (by
 obtain ⟨a, ha, hF⟩ := Bp hF;obtain ⟨h0, _, hlt⟩ := Mf ha;simp only [BB, hx, hy, Dd, hs, hq, h0, hlt, true_and, and_self, if_true, OptP_some, Nat.zero_add]
 exact hk a ha hF)
theorem XB {α : Type} {q id off f0 j : Nat} {c : α -> List D} {e : List α} {i : Int} {a : α} {v : D} (ok : OK h O) (hm : md d = 0) (hx : opL n l x = .ptr id off) (hj : O[j]? = some (id, .cells (fl c e))) (hid : id ≠ 0) (hc : ∀ a, (c a).length = q)
  (hi : idx e i = some a) (ho : off = i.toNat * q + f0) (hle : Nat.ble f0 q = true) (hp : DR P t ((c a).drop f0) = some v)
  (hk : AO P md w ops os ⟨AH n ((d, v) :: l), Hp h O⟩ k) : AO P md w ops (⟨some d, .load t x, ty, pos, af, none⟩ :: os) ⟨AH n l, Hp h O⟩ k := E4 (by
 obtain ⟨_, h1, _⟩ := Mf hi;obtain ⟨h2, h3⟩ := MT hc h1;have e1 : (fl c e).drop off = (c a).drop f0 ++ fl c (e.drop (i.toNat + 1)) := by
  rw [h2, ho, <- h3, List.drop_length_add_append, List.drop_append_of_le_length (by rw [hc]; exact Nat.le_of_ble_eq_true hle)]
 simp only [BB, hx, hm, Ol, GW, Hp_get j ok hj hid, e1, Qh hp, OptP_some]; exact hk)
theorem WA {α : Type} {q id off f0 j : Nat} {c : α -> List D} {e : List α} {i : Int} {a b : α} {v : D} (ok : OK h O) (hx : opL n l x = .ptr id off) (hy : opL n l y = v) (hj : O[j]? = some (id, .cells (fl c e))) (hid : id ≠ 0) (hc : ∀ a, (c a).length = q)
  (hi : idx e i = some a) (ho : off = i.toNat * q + f0) (h1 : v.lay = true) (h2 : szD P t = some v.cells.length) (hle : Nat.ble (f0 + v.cells.length) q = true) (hb : Fk (c a) f0 v.cells = c b)
  (hk : OK h (O.set j (id, .cells (fl c (e.set i.toNat b)))) -> AO P md w ops os ⟨AH n l, Hp h (O.set j (id, .cells (fl c (e.set i.toNat b))))⟩ k) :
  AO P md w ops (⟨none, .store t x y, ty, pos, af, none⟩ :: os) ⟨AH n l, Hp h O⟩ k := TE (by
 obtain ⟨_, g1, _⟩ := Mf hi;obtain ⟨g2, g3⟩ := MT hc g1;have hle' := Nat.le_of_ble_eq_true hle;have hca := hc a;have e1 : Fk (fl c e) off v.cells = fl c (e.set i.toNat b) := by
  rw [VF hc g1, <- hb, g2];unfold Fk;rw [ho];have t1 : (fl c (e.take i.toNat) ++ (c a ++ fl c (e.drop (i.toNat + 1)))).take (i.toNat * q + f0) = fl c (e.take i.toNat) ++ (c a).take f0 := by
   rw [<- g3, List.take_length_add_append, List.take_append_of_le_length (by omega)]
  have t2 : (fl c (e.take i.toNat) ++ (c a ++ fl c (e.drop (i.toNat + 1)))).drop (i.toNat * q + f0 + v.cells.length) = (c a).drop (f0 + v.cells.length) ++ fl c (e.drop (i.toNat + 1)) := by
   rw [Nat.add_assoc, <- g3, List.drop_length_add_append, List.drop_append_of_le_length (by omega)]
  rw [t1, t2]; simp
 have e2 : off + v.cells.length <= (fl c e).length := by
  rw [g2, ho]; simp only [bm, g3, hca]; omega
 obtain ⟨e3, e4⟩ := Hp_set (y := .cells (fl c (e.set i.toNat b))) j ok hj hid;subst hy;simp only [BB, hx, Jk, Hp_get j ok hj hid];refine ⟨h1, h2, e2, ?_⟩
 rw [e1, e3]; exact hk e4)
theorem R7 {hh : Heap} {α : Type} {c : α -> List D} {q r : Nat} {M : List α} : PM hh q (.sl q (M.map c) r) = some (M.map c) := by simp [PM]
theorem LK {α : Type} {l b : List α} {i j : Int} (h : slc l i j = some b) : 0 <= i /\ i <= j /\ j <= (l.length : Int) /\ b = (l.drop i.toNat).take (j.toNat - i.toNat) := by
 obtain ⟨h1, h2⟩ := JV h; exact ⟨h1.1, h1.2.1, h1.2.2, h2⟩
theorem UX {α : Type} {q id j B : Nat} {zs : List D} {c : α -> List D} {e M : List α} {u : TypeId} {f : List α -> Option β} (ok : OK h O) (hm : md d = 1) (hx : opL n l x = .msl q id 0 e.length) (hy : PM (Hp h O) q (opL n l y) = some (M.map c)) (hc : ∀ a, (c a).length = q)
  (hj : O[j]? = some (id, .cells (fl c e))) (hid : id ≠ 0) (he : elD P t = some (q, B, zs)) (hu : Fd P u = true) (hF : OptP ((app B e M).bind f) G)
  (hk : ∀ i, i ≠ 0 -> OK h (O.set j (i, .cells (fl c (e ++ M)))) -> OptP (f (e ++ M)) G -> AO P md w ops os ⟨AH n ((d, .msl q i 0 (e ++ M).length) :: l), Hp h (O.set j (i, .cells (fl c (e ++ M))))⟩ k) :
  AO P md w ops (⟨some d, .call ⟨.builtin .append, #[x, y], #[t, u]⟩, ty, pos, af, none⟩ :: os) ⟨AH n l, Hp h O⟩ k := E4 (by
 obtain ⟨v, hv, hF⟩ := Bp hF;unfold app at hv;split at hv
 ·rename_i hcc;injection hv with hv; subst hv
  simp only [BB, ES, List.map_cons, List.map_nil, hx, hm, Ff, he, hy, hu, true_and, List.length_map];refine ⟨hcc.1, hcc.2, fl c e, Hp_get j ok hj hid, Fp hc e, fun i hf hi => ?_⟩;obtain ⟨e1, e2⟩ := Hp_rel j ok hj hid;rw [e1];have hf' : Hp h (O.set j (0, .room)) i = none := by
   rw [<- e1];by_cases e : i = id
   ·subst e; exact Heap.upd_same ..
   ·rw [Heap.upd_ne _ _ e]; exact hf
  obtain ⟨hlt, _⟩ := List.getElem?_eq_some_iff.1 hj;obtain ⟨e3, e4⟩ := Hp_fill (x := .cells (fl c e ++ (M.map c).flatten)) j e2 (by simp [hlt]) hi hf';have e5 : fl c e ++ (M.map c).flatten = fl c (e ++ M) := by simp [fl]
  rw [e3, List.set_set];rw [List.set_set] at e4;rw [e5] at e4 ⊢;have := hk i hi e4 hF;simpa using this
 ·simp at hv)
theorem Xy {α : Type} {q id : Nat} {e : List α} {et : TypeId} {lo hi : Option Operand} {i j : Int} {f : List α -> Option β} (hx : opL n l x = .msl q id 0 e.length) (hs : slD P t = some et) (hq : szD P et = some q)
  (h1 : BI (lo.map (opL n l)) 0 = some i) (h2 : BI (hi.map (opL n l)) e.length = some j) (hF : OptP ((slc e i j).bind f) G)
  (hk1 : ∀ b, slc e i j = some b -> OptP (f b) G -> (i = 0 \/ i < (e.length : Int)) -> AO P md w ops os ⟨AH n ((d, .msl q id (i.toNat * q) b.length) :: l), h⟩ k)
  (hk2 : slc e i j = some [] -> OptP (f []) G -> ¬ (i = 0 \/ i < (e.length : Int)) -> AO P md w ops os ⟨AH n ((d, .sl q [] 0) :: l), h⟩ k) :
  AO P md w ops (⟨some d, .slice t x lo hi none, ty, pos, af, none⟩ :: os) ⟨AH n l, h⟩ k := E4 (by
 obtain ⟨b, hb, hF⟩ := Bp hF;obtain ⟨c1, c2, c3, c4⟩ := LK hb;simp only [BB, hx, K8, hs, ba, hq, h1, h2, if_true, Nat.zero_add];by_cases hc : i = 0 \/ i < (e.length : Int)
 ·rw [if_pos ⟨c1, c2, c3, hc⟩, OptP_some];have : j.toNat - i.toNat = b.length := by rw [c4]; simp; omega
  rw [this]; exact hk1 b hb hF hc
 ·have e1 : i = j := by omega
  have e2 : j = (e.length : Int) := by omega
  rw [if_neg (fun h => hc h.2.2.2), if_pos ⟨c1, e1, e2⟩, OptP_some];have : b = [] := by rw [c4, e1]; simp
  subst this
  exact hk2 hb hF hc)
end
end Go.Proofs.YtjofelloaofooaaGreatDoor
