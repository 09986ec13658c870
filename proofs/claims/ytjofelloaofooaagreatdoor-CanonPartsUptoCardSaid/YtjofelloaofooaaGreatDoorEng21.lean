/- Own rows that may be nil. No condition. -/
import Derived.Test.YtjofelloaofooaaGreatDoorEng20
set_option linter.unusedSimpArgs false
set_option linter.unusedVariables false
namespace Go.Proofs.YtjofelloaofooaaGreatDoor
def EC {α : Type} (q id : Nat) (e : List α) : D := match id with
 | 0 => .snil
 | i + 1 => .msl q (i + 1) 0 e.length
def mo {α : Type} (id : Nat) (c : α -> List D) (e : List α) : Nat × AObj := match id with
 | 0 => (0, .room)
 | i + 1 => (i + 1, .cells (fl c e))
theorem Hg {α : Type} {q id : Nat} {e : List α} (h : id ≠ 0) : EC q id e = .msl q id 0 e.length := by cases id with | zero => exact absurd rfl h | succ i => rfl
theorem It {α : Type} {c : α -> List D} {id : Nat} {e : List α} (h : id ≠ 0) : mo id c e = (id, .cells (fl c e)) := by cases id with | zero => exact absurd rfl h | succ i => rfl
def Vw {α : Type} (q id : Nat) (i : Int) (len : Nat) (b : List α) : D := if id = 0 then .snil else if i = 0 \/ i < (len : Int) then .msl q id (i.toNat * q) b.length else .sl q [] 0
section
variable {P : Program} {md : Nat -> Nat} {w : Bool} {ops : Array Oper} {os : List Oper} {k : St -> Prop} {n : Nat} {l : List (Nat × D)} {h : Heap} {d : Nat} {t ty : TypeId} {pos : String} {af : Array Edge} {x y z : Operand}
variable {β : Type} {G : β -> Prop} {O : List (Nat × AObj)} {α : Type} {c : α -> List D} {e : List α} {q id : Nat}
theorem Ry {et : TypeId} (hz : id = 0 -> e = []) (hx : opL n l x = EC q id e) (ht : slD P t = some et) (hk : AO P md w ops os ⟨AH n ((d, .int .i64 (e.length : Int)) :: l), h⟩ k) :
  AO P md w ops (⟨some d, .call ⟨.builtin .len, #[x], #[t]⟩, ty, pos, af, none⟩ :: os) ⟨AH n l, h⟩ k := by
 cases id with
 | zero => exact Ve hx ht (by have e1 := hz rfl; subst e1; exact hk)
 | succ i => exact Vu hx ht hk
theorem Sw {et : TypeId} {K : IntKind} {i : Int} {f : α -> Option β} (hz : id = 0 -> e = []) (hx : opL n l x = EC q id e) (hy : opL n l y = .int K i) (hs : slD P t = some et) (hq : szD P et = some q)
  (hF : OptP ((idx e i).bind f) G) (hk : ∀ a, idx e i = some a -> OptP (f a) G -> AO P md w ops os ⟨AH n ((d, .ptr id (i.toNat * q)) :: l), h⟩ k) : AO P md w ops (⟨some d, .indexAddr t x y, ty, pos, af, none⟩ :: os) ⟨AH n l, h⟩ k := by
 obtain ⟨a, ha, hFa⟩ := Bp hF;have h0 : id ≠ 0 := fun h => by rw [hz h] at ha; simp [idx] at ha
 exact XC (by rw [hx, Hg h0]) hy hs hq hF hk
theorem UR {i : Int} {a : α} (hz : id = 0 -> e = []) (hi : idx e i = some a) : id ≠ 0 := fun h => by rw [hz h] at hi; simp [idx] at hi
theorem Uz {off f0 j : Nat} {i : Int} {a : α} {v : D} (ok : OK h O) (hm : md d = 0) (hz : id = 0 -> e = []) (hx : opL n l x = .ptr id off) (hj : O[j]? = some (mo id c e)) (hc : ∀ a, (c a).length = q)
  (hi : idx e i = some a) (ho : off = i.toNat * q + f0) (hle : Nat.ble f0 q = true) (hp : DR P t ((c a).drop f0) = some v)
  (hk : AO P md w ops os ⟨AH n ((d, v) :: l), Hp h O⟩ k) : AO P md w ops (⟨some d, .load t x, ty, pos, af, none⟩ :: os) ⟨AH n l, Hp h O⟩ k :=
 have h0 := UR hz hi
 XB ok hm hx (by rw [hj, It h0]) h0 hc hi ho hle hp hk
theorem X9 {off f0 j : Nat} {i : Int} {a b : α} {v : D} (ok : OK h O) (hz : id = 0 -> e = []) (hx : opL n l x = .ptr id off) (hy : opL n l y = v) (hj : O[j]? = some (mo id c e)) (hc : ∀ a, (c a).length = q)
  (hi : idx e i = some a) (ho : off = i.toNat * q + f0) (h1 : v.lay = true) (h2 : szD P t = some v.cells.length) (hle : Nat.ble (f0 + v.cells.length) q = true) (hb : Fk (c a) f0 v.cells = c b)
  (hk : (id = 0 -> e.set i.toNat b = []) -> OK h (O.set j (mo id c (e.set i.toNat b))) -> AO P md w ops os ⟨AH n l, Hp h (O.set j (mo id c (e.set i.toNat b)))⟩ k) :
  AO P md w ops (⟨none, .store t x y, ty, pos, af, none⟩ :: os) ⟨AH n l, Hp h O⟩ k := by
 have h0 := UR hz hi;refine WA ok hx hy (by rw [hj, It h0]) h0 hc hi ho h1 h2 hle hb fun ok' => ?_;have := hk (fun h => absurd h h0);rw [It h0] at this;exact this ok'
theorem Xz {et : TypeId} {lo hi : Option Operand} {i j : Int} {f : List α -> Option β} (hz : id = 0 -> e = []) (hx : opL n l x = EC q id e) (hs : slD P t = some et) (hq : szD P et = some q)
  (h1 : BI (lo.map (opL n l)) 0 = some i) (h2 : BI (hi.map (opL n l)) e.length = some j) (hF : OptP ((slc e i j).bind f) G)
  (hk : ∀ b, slc e i j = some b -> OptP (f b) G -> AO P md w ops os ⟨AH n ((d, Vw q id i e.length b) :: l), h⟩ k) :
  AO P md w ops (⟨some d, .slice t x lo hi none, ty, pos, af, none⟩ :: os) ⟨AH n l, h⟩ k := by
 cases id with
 | zero =>
  have e1 := hz rfl;subst e1;obtain ⟨b, hb, hF⟩ := Bp hF;obtain ⟨c1, c2, c3, c4⟩ := LK hb;refine E4 ?_;simp at c3;have g1 : i = 0 := by omega
  have g2 : j = 0 := by omega
  have hx' : opL n l x = .snil := hx;simp only [BB, hx', Gj, hs, h1, hq];have h2' : BI (hi.map (opL n l)) 0 = some j := h2;simp only [h2', g1, g2, hq, Option.isSome_some, and_self, if_true, OptP_some];exact hk b hb hF
 | succ m =>
  refine Xy hx hs hq h1 h2 hF (fun b hb hF hc => ?_) fun hb hF hc => ?_
  ·have := hk b hb hF;unfold Vw at this;rw [if_neg (by simp), if_pos hc] at this; exact this
  ·have := hk [] hb hF;unfold Vw at this;rw [if_neg (by simp), if_neg hc] at this; exact this
theorem RK {j B : Nat} {zs : List D} {M : List α} {u : TypeId} {f : List α -> Option β} (ok : OK h O) (hz : id = 0 -> e = []) (hm : md d = 1) (hx : opL n l x = EC q id e) (hy : PM (Hp h O) q (opL n l y) = some (M.map c)) (hc : ∀ a, (c a).length = q)
  (hj : O[j]? = some (mo id c e)) (he : elD P t = some (q, B, zs)) (hu : Fd P u = true) (hF : OptP ((app B e M).bind f) G)
  (hk : ∀ i, (i = 0 -> e ++ M = []) -> OK h (O.set j (mo i c (e ++ M))) -> OptP (f (e ++ M)) G -> AO P md w ops os ⟨AH n ((d, EC q i (e ++ M)) :: l), Hp h (O.set j (mo i c (e ++ M)))⟩ k) :
  AO P md w ops (⟨some d, .call ⟨.builtin .append, #[x, y], #[t, u]⟩, ty, pos, af, none⟩ :: os) ⟨AH n l, Hp h O⟩ k := by
 cases id with
 | succ m =>
  refine UX ok hm hx hy hc hj (Nat.succ_ne_zero m) he hu hF fun i hi ok' hF' => ?_;have := hk i (fun h => absurd h hi);rw [It hi, Hg hi] at this;exact this ok' hF'
 | zero =>
  have e1 := hz rfl;subst e1;obtain ⟨v, hv, hF⟩ := Bp hF;unfold app at hv;split at hv
  ·rename_i hcc;injection hv with hv; subst hv
   refine E4 ?_;have hx' : opL n l x = .snil := hx;have hj' : O[j]? = some (0, .room) := hj;have hset : O.set j (0, .room) = O := by
    obtain ⟨hlt, he⟩ := List.getElem?_eq_some_iff.1 hj';rw [<- he]; exact List.set_getElem_self hlt
   simp only [BB, ES, List.map_cons, List.map_nil, hx', hm, Ff, he, hy, hu, true_and, List.length_map];refine ⟨by simpa using hcc.1, by simpa using hcc.2, fun hM => ?_, fun hM => ?_⟩
   ·have hM' : M = [] := by simpa using hM
    subst hM';have := hk 0 (fun _ => rfl);simp only [mo, EC, hset] at this;exact this ok hF
   ·simp only [FM];intro i hf hi;obtain ⟨hlt, _⟩ := List.getElem?_eq_some_iff.1 hj';obtain ⟨e3, e4⟩ := Hp_fill (x := .cells (M.map c).flatten) j ok hj' hi hf;rw [e3];have := hk i (fun h => absurd h hi);rw [It hi, Hg hi] at this;have := this (by simpa [fl] using e4) hF;simpa [fl] using this
  ·simp at hv
theorem VV (j d : Nat) (ok : OK h O) (hz : id = 0 -> e = []) (hv : Gl l d = EC q id e) (hO : O[j]? = some (mo id c e)) (hc : ∀ a, (c a).length = q)
  (hk : OK h (O.set j (0, .room)) -> AO P md true ops os ⟨AH n ((d, .sl q (e.map c) 0) :: l), Hp h (O.set j (0, .room))⟩ k) : AO P md true ops os ⟨AH n l, Hp h O⟩ k := by
 cases id with
 | succ m => exact W3 j d ok hv hO (Nat.succ_ne_zero m) hc hk
 | zero =>
  have e1 := hz rfl;subst e1;have hset : O.set j (0, .room) = O := by
   obtain ⟨hlt, he⟩ := List.getElem?_eq_some_iff.1 hO;have he' : O[j] = (0, .room) := he;rw [<- he']; exact List.set_getElem_self hlt
  rw [hset] at hk;exact HL d (v := .sl q [] 0) (by rw [hv]; exact .nil q) (hk ok)
end
end Go.Proofs.YtjofelloaofooaaGreatDoor
