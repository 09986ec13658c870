/- Rows of elements each of which has a row for itself (the innermost first), parts of cells, and what is cut off. No condition. -/
import Derived.Test.YtjofelloaofooaaGreatDoorEB
set_option linter.unusedSimpArgs false
set_option linter.unusedVariables false
namespace Go.Proofs.YtjofelloaofooaaGreatDoor
theorem HR.trim {K : Kn} {h : Heap} {w : World} (H : HR K h w) {id : Nat} {cs ds : List D} (hx : h id = some (.cells (cs ++ ds))) : HR K (h.upd id (some (.cells cs))) w := by
 have key : ∀ i y, h.upd id (some (.cells cs)) i = some y -> ∃ x, h i = some x /\ (∀ b o, own K i y b o ↔ own K i x b o) /\ (ObjOk K w i x -> ObjOk K w i y) := by
  intro i y hy;by_cases e : i = id
  ·subst e;rw [Heap.upd_same] at hy; injection hy with hy; subst hy
   refine ⟨_, hx, fun _ _ => Iff.rfl, fun ⟨a, b, c⟩ => ⟨by simp at a; omega, fun j hj => ?_, c⟩⟩;obtain ⟨v, v1, v2, v3⟩ := b j hj;refine ⟨v, v1, v2, ?_⟩;by_cases hl : j < cs.length
   ·rw [List.getD_eq_getElem?_getD, List.getElem?_append_left hl, <- List.getD_eq_getElem?_getD] at v3; exact v3
   ·rw [List.getD_eq_getElem?_getD, List.getElem?_eq_none (by omega)]; exact .any _
  ·rw [Heap.upd_ne _ _ e] at hy;exact ⟨y, hy, fun _ _ => Iff.rfl, fun h => h⟩
 have h0 : id ≠ 0 := fun e => by have := H.z; rw [<- e, hx] at this; simp at this
 refine ⟨fun i y hy => ?_, H.nz, H.mu, H.bs, H.old, fun i y hy => ?_, fun i y hy b o ho => ?_, fun i y hy b o ho => ?_, fun i j y z hij hy hz b o hoy hoz => ?_, ?_, H.ev, H.tb⟩
 ·obtain ⟨x, hx, _⟩ := key i y hy; exact H.lt i x hx
 ·obtain ⟨x, hx, _, hf⟩ := key i y hy; exact hf (H.ok i x hx)
 ·obtain ⟨x, hx, hf, _⟩ := key i y hy; exact H.ge i x hx b o ((hf b o).1 ho)
 ·obtain ⟨x, hx, hf, _⟩ := key i y hy; exact H.nomu i x hx b o ((hf b o).1 ho)
 ·obtain ⟨x, hx, hf, _⟩ := key i y hy;obtain ⟨x', hx', hf', _⟩ := key j z hz;exact H.sep i j x x' hij hx hx' b o ((hf b o).1 hoy) ((hf' b o).1 hoz)
 ·rw [Heap.upd_ne _ _ (Ne.symm h0)]; exact H.z
def Aav {α : Type} (e : List α) (i : Int) : Option (α × List α) := if i + 1 = (e.length : Int) then (match e with | [] => none | a :: l => some (a, l)) else none
def hid {α γ : Type} (ck : γ -> List D) (kids : α -> List γ) (x : List (α × Nat)) : List (Nat × AObj) := x.map fun p => mo p.2 ck (kids p.1)
def zk {α γ : Type} (kids : α -> List γ) (x : List (α × Nat)) : Prop := ∀ p ∈ x, p.2 = 0 -> kids p.1 = []
section
variable {P : Program} {md : Nat -> Nat} {w : Bool} {ops : Array Oper} {os : List Oper} {k : St -> Prop} {n : Nat} {l : List (Nat × D)} {h : Heap} {d : Nat} {t ty : TypeId} {pos : String} {af : Array Edge} {x y z : Operand}
variable {β : Type} {G : β -> Prop} {O : List (Nat × AObj)}
theorem VT {id : Nat} {cs ds : List D} (j : Nat) (ok : OK h O) (hO : O[j]? = some (id, .cells (cs ++ ds))) (hid : id ≠ 0)
  (hk : OK h (O.set j (id, .cells cs)) -> AO P md true ops os ⟨AH n l, Hp h (O.set j (id, .cells cs))⟩ k) : AO P md true ops os ⟨AH n l, Hp h O⟩ k :=
 VI fun df K a u S => by
  obtain ⟨e1, e2⟩ := Hp_set (y := .cells cs) j ok hO hid;have H' := S.h.trim (Hp_get j ok hO hid);simp only [e1] at H';exact ⟨K, ⟨AH n l, Hp h (O.set j (id, .cells cs))⟩, Ext.refl K, ⟨H', S.d, S.n, S.v⟩, hk e2⟩
theorem Vj {f : Fn} {b : Array Operand} {ca : List D} (hb : b.toList.map (opL n l) = ca) (hk : AO P md w ops os ⟨AH n ((d, .fn f [] ca) :: l), h⟩ k) :
  AO P md w ops (⟨some d, .makeFunc f #[] b, ty, pos, af, none⟩ :: os) ⟨AH n l, h⟩ k := E4 (by
 subst hb
 simp only [BB]; exact hk)
end
section
variable {P : Program} {md : Nat -> Nat} {ops : Array Oper} {os : List Oper} {k : St -> Prop} {n : Nat} {l : List (Nat × D)} {h : Heap}
end
def eqL {α : Type} (a b : List α) : Option Unit := if a.length = b.length then some () else none
def ltL (i : Int) (n : Nat) : Option Unit := if 0 <= i /\ i < (n : Int) then some () else none
section
variable {P : Program} {md : Nat -> Nat} {ops : Array Oper} {os : List Oper} {k : St -> Prop} {n : Nat} {l : List (Nat × D)} {h : Heap} {d : Nat} {t ty : TypeId} {pos : String} {af : Array Edge} {x y z : Operand}
variable {β : Type} {G : β -> Prop} {O : List (Nat × AObj)}
theorem UJ {α : Type} {c : α -> List D} {e v : List α} {q id : Nat} {et : TypeId} {zs : List D} {f : Unit -> Option β} {i : Int} (j : Nat) (ok : OK h O) (hz : id = 0 -> e = []) (hO : O[j]? = some (mo id c e)) (hq : ∀ a, (c a).length = q) (h0 : Nat.blt 0 q = true)
  (hv : slc e i (e.length : Int) = some v) (hx : opL n l x = Vw q id i e.length v) (hs : slD P t = some et) (hzc : zcD P et = some zs) (hzl : zs.length = q) (hF : OptP ((ltL i e.length).bind f) G)
  (hk : OptP (f ()) G -> id ≠ 0 -> 0 <= i /\ i < (e.length : Int) -> OK h (O.set j (mo id c (e.take i.toNat))) -> AO P md true ops os ⟨AH n l, Hp h (O.set j (mo id c (e.take i.toNat)))⟩ k) :
  AO P md true ops (⟨none, .call ⟨.builtin .clear, #[x], #[t]⟩, ty, pos, af, none⟩ :: os) ⟨AH n l, Hp h O⟩ k := by
 obtain ⟨_, hg, hF⟩ := Bp hF;unfold ltL at hg;split at hg
 case isFalse => cases hg
 rename_i hi;have hid : id ≠ 0 := fun h => by have := hz h; subst this; simp at hi; omega
 obtain ⟨_, _, _, hve⟩ := LK hv;have hvl : v.length = e.length - i.toNat := by rw [hve, List.length_take, List.length_drop]; omega
 have hO' : O[j]? = some (id, .cells (fl c e)) := by rw [hO, It hid]
 have hx' : opL n l x = .msl q id (i.toNat * q) v.length := by rw [hx]; unfold Vw; rw [if_neg hid, if_pos (.inr hi.2)]
 have hle : i.toNat <= e.length := by omega
 have hfe : fl c e = fl c (e.take i.toNat) ++ fl c (e.drop i.toNat) := by
  conv => lhs; rw [<- List.take_append_drop i.toNat e]
  unfold fl; rw [List.map_append, List.flatten_append]
 have hft : (fl c (e.take i.toNat)).length = i.toNat * q := by rw [Fp hq, List.length_take, Nat.min_eq_left hle]
 have hfd : (fl c (e.drop i.toNat)).length = v.length * q := by rw [Fp hq, List.length_drop, hvl]
 have hdl : (List.replicate v.length zs).flatten.length = v.length * q := by simp [hzl]
 have hput : Fk (fl c e) (i.toNat * q) (List.replicate v.length zs).flatten = fl c (e.take i.toNat) ++ (List.replicate v.length zs).flatten := by
  unfold Fk;rw [hdl, hfe, <- hft, List.take_left, List.drop_eq_nil_of_le (by rw [bm, hft, hfd]; omega), List.append_nil]
 obtain ⟨e3, e4⟩ := Hp_set (y := .cells (fl c (e.take i.toNat) ++ (List.replicate v.length zs).flatten)) j ok hO' hid;refine TE ?_;simp only [BB, ES, List.map_cons, List.map_nil, hx', KV, hs, hzc, Hp_get j ok hO' hid];refine ⟨hzl, by omega, by rw [Nat.blt_eq] at h0; exact h0, by rw [hfe, bm, hft, hfd]; omega, ?_⟩;rw [hput, e3];have hjl : j < O.length := (List.getElem?_eq_some_iff.1 hO).1;refine VT (id := id) (cs := fl c (e.take i.toNat)) (ds := (List.replicate v.length zs).flatten) j e4 (by rw [List.getElem?_set_self hjl]) hid fun ok' => ?_;rw [List.set_set] at ok' ⊢;have hm : ((id, .cells (fl c (e.take i.toNat))) : Nat × AObj) = mo id c (e.take i.toNat) := (It hid).symm;rw [hm] at ok' ⊢;exact hk hF hid hi ok'
theorem WN {α : Type} {q id N : Nat} {e : List α} {i : Int} {w : Bool} {et : TypeId} (hid : id ≠ 0) (hx : opL n l x = .msl q id 0 N) (hy : opL n l y = .int .i64 i) (hs : slD P t = some et) (hq : szD P et = some q) (h0 : 0 <= i) (h1 : i <= (N : Int)) (he : (e.length : Int) = i)
  (hk : AO P md w ops os ⟨AH n ((d, EC q id e) :: l), h⟩ k) : AO P md w ops (⟨some d, .slice t x none (some y) none, ty, pos, af, none⟩ :: os) ⟨AH n l, h⟩ k := E4 (by
 have e1 : i.toNat = e.length := by omega
 simp only [BB, Option.map_none, Option.map_some, hx, hy, Gj, hs, hq, if_true, BI];rw [if_pos (by omega)];rw [Hg hid] at hk;simp only [OptP_some]
 simpa [e1] using hk)
end
end Go.Proofs.YtjofelloaofooaaGreatDoor
