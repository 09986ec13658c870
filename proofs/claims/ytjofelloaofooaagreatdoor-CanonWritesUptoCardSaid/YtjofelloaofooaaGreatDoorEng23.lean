/- Errors, function values, functions that call themselves, ranging over strings, lists in fields. No condition. -/
import Derived.Test.YtjofelloaofooaaGreatDoorEng22
set_option linter.unusedSimpArgs false
set_option linter.unusedVariables false
namespace Go.Proofs.YtjofelloaofooaaGreatDoor
def ifD : Bool -> D
 | true => .ifc
 | false => .inil
theorem HR.recell {K : Kn} {h : Heap} {w : World} (H : HR K h w) {i : Nat} {cs cs' : List D} (hx : h i = some (.cells cs)) (hl : cs'.length = cs.length) (hv : ∀ (j : Nat) (v : Value), VR K v (cs.getD j .any) -> VR K v (cs'.getD j .any)) :
  HR K (h.upd i (some (.cells cs'))) w := by
 have key : ∀ j y, (h.upd i (some (.cells cs'))) j = some y -> ∃ x, h j = some x /\ (∀ b o, own K j y b o ↔ own K j x b o) /\ (ObjOk K w j x -> ObjOk K w j y) := by
  intro j y hy;by_cases e : j = i
  ·subst e;rw [Heap.upd_same] at hy;injection hy with hy; subst hy
   refine ⟨.cells cs, hx, fun _ _ => Iff.rfl, fun ⟨a, b, c⟩ => ⟨by rw [hl]; exact a, fun q hq => ?_, c⟩⟩;obtain ⟨v, v1, v2, v3⟩ := b q hq;exact ⟨v, v1, v2, hv q v v3⟩
  ·rw [Heap.upd_ne _ _ e] at hy;exact ⟨y, hy, fun _ _ => Iff.rfl, fun h => h⟩
 refine ⟨fun i y hy => ?_, H.nz, H.mu, H.bs, H.old, fun i y hy => ?_, fun i y hy b o ho => ?_, fun i y hy b o ho => ?_, fun i j y z hij hy hz b o hoy hoz => ?_, ?_, H.ev, H.tb⟩
 ·obtain ⟨x, hx, _⟩ := key i y hy; exact H.lt i x hx
 ·obtain ⟨x, hx, _, hf⟩ := key i y hy; exact hf (H.ok i x hx)
 ·obtain ⟨x, hx, hf, _⟩ := key i y hy; exact H.ge i x hx b o ((hf b o).1 ho)
 ·obtain ⟨x, hx, hf, _⟩ := key i y hy; exact H.nomu i x hx b o ((hf b o).1 ho)
 ·obtain ⟨x, hx, hf, _⟩ := key i y hy;obtain ⟨x', hx', hf', _⟩ := key j z hz;exact H.sep i j x x' hij hx hx' b o ((hf b o).1 hoy) ((hf' b o).1 hoz)
 ·have hi0 : (0 : Nat) ≠ i := fun e => by have := H.z; rw [e, hx] at this; simp at this
  rw [Heap.upd_ne _ _ hi0]; exact H.z
theorem Wd.toE {d : D} {cs cs' : List D} (h : Wd d (.agg cs)) (e : cs' = cs) : Wd d (.agg cs') := e ▸ h
theorem Tr {α : Type} (l : List α) (i j : Nat) (a b : α) : (l.set i a).getD j b = if i = j /\ i < l.length then a else l.getD j b := by
 rw [List.getD_eq_getElem?_getD, List.getD_eq_getElem?_getD, List.getElem?_set];by_cases h : i = j
 ·subst h;by_cases h2 : i < l.length
  ·simp [h2]
  ·simp [h2]
 ·simp [h]
section
variable {P : Program} {md : Nat -> Nat} {w : Bool} {ops : Array Oper} {os : List Oper} {k : St -> Prop} {n : Nat} {l : List (Nat × D)} {h : Heap} {d : Nat} {t ty : TypeId} {pos : String} {af : Array Edge} {x y z : Operand}
variable {β : Type} {G : β -> Prop} {O : List (Nat × AObj)}
theorem Iy {d : Nat} {v : D} (hv : G3 l d = v) (hk : AY P md w ops os ⟨AK n ((d, v) :: l), h⟩ k) : AY P md w ops os ⟨AK n l, h⟩ k := by
 have e : AK n ((d, v) :: l) = AK n l := by
  unfold AK;refine List.map_congr_left fun t _ => ?_;show (match Nat.beq d t with | true => v | false => G3 l t) = G3 l t
  cases hb : Nat.beq d t with
  | true => rw [Nat.beq_eq] at hb; subst hb; exact hv.symm
  | false => rfl
 rw [e] at hk; exact hk
theorem Cn_ghostO {X : St -> Prop} {i : Nat} {cs : List D} (j off q : Nat) (C : Nat -> List D) (ok : OK h O) (hO : O[j]? = some (i, .cells cs)) (hi : i ≠ 0) (hc : cs.getD off .any = .snil) (hC : ∀ r, cs.set off (.sl q [] r) = C r)
  (hk : ∀ r, r ≠ 0 -> OK h ((r, .room) :: O.set j (i, .cells (C r))) -> X ⟨AK n l, Hp h ((r, .room) :: O.set j (i, .cells (C r)))⟩) : Cn true ⟨AK n l, Hp h O⟩ X := fun df K a u S => by
 obtain ⟨E, H'⟩ := S.h.ghost q;have hnz : K.nx ≠ 0 := by have := S.h.nz; omega
 have hget := Hp_get j ok hO hi;have hfr : Hp h O K.nx = none := S.h.fresh;have hne : i ≠ K.nx := fun e => by rw [e, hfr] at hget; simp at hget
 have H2 := H'.recell (i := i) (cs := cs) (cs' := C K.nx) (by rw [Heap.upd_ne _ _ hne]; exact hget) (by rw [<- hC]; simp) (fun jj v hv => by
  rw [<- hC, Tr];split
  ·rename_i he;rw [<- he.1, hc] at hv;cases hv;exact .sln q K.nx (by simp [Kn.ghost])
  ·exact hv)
 obtain ⟨e1, e2⟩ := Hp_set (y := .cells (C K.nx)) j ok hO hi;have hfr' : Hp h (O.set j (i, .cells (C K.nx))) K.nx = none := by rw [<- e1, Heap.upd_ne _ _ (Ne.symm hne)]; exact hfr
 obtain ⟨e3, e4⟩ := Hp_new (x := .room) e2 hfr' hnz;rw [Heap.upd_comm _ _ _ (Ne.symm hne), e1, e3] at H2;exact ⟨K.ghost q, ⟨AK n l, Hp h ((K.nx, .room) :: O.set j (i, .cells (C K.nx)))⟩, E, ⟨H2, S.d, S.n, fun i => (S.v i).mono E⟩, hk K.nx hnz e4⟩
theorem L5 {i : Nat} {cs : List D} (j off q : Nat) (C : Nat -> List D) (ok : OK h O) (hO : O[j]? = some (i, .cells cs)) (hi : i ≠ 0) (hc : cs.getD off .any = .snil) (hC : ∀ r, cs.set off (.sl q [] r) = C r)
  (hk : ∀ r, r ≠ 0 -> OK h ((r, .room) :: O.set j (i, .cells (C r))) -> AY P md true ops os ⟨AK n l, Hp h ((r, .room) :: O.set j (i, .cells (C r)))⟩ k) : AY P md true ops os ⟨AK n l, Hp h O⟩ k :=
 Wf (Cn_ghostO j off q C ok hO hi hc hC hk)
theorem CM {g : FuncId} {ds : List D} {ρ : Type} {X : Option ρ} {enc : ρ -> D} (hw : ∀ (G : ρ -> Prop) (h : Heap), OptP X G -> CallsA P g ds h fun d h' => ∃ r, G r /\ d = enc r /\ h' = h)
  {f0 : ρ -> Option β} {R : D -> Heap -> Prop} (h : Heap) (hF : OptP (X.bind f0) G) (hk : ∀ r, X = some r -> OptP (f0 r) G -> R (enc r) h) : CallsA P g ds h R := by
 obtain ⟨r0, hr, hF⟩ := AM hF;refine (hw (fun r => r = r0) h ⟨r0, hr, rfl⟩).mono ?_;rintro _ _ ⟨r, rfl, rfl, rfl⟩;exact hk _ hr hF
theorem L7 {g : FuncId} {fi ca : List D} {args : Array Operand} {ts : Array TypeId} {ds : List D} (hf : opL n l x = .fn (.func g) fi ca) (hc : CallsA P g ds h fun v h' => AY P md w ops os ⟨AK n ((d, v) :: l), h'⟩ k)
  (hw : WdC (fi ++ args.toList.map (opL n l) ++ ca) ds) : AY P md w ops (⟨some d, .call ⟨.value x, args, ts⟩, ty, pos, af, none⟩ :: os) ⟨AK n l, h⟩ k := Fv (by
 have := hc.arg hw
 simpa only [CC, hf] using this)
def rnS (s : List By8) (p : Nat) : Int := (Utf8.decode ⟨s.toArray⟩ p).1
def wdS (s : List By8) (p : Nat) : Nat := (Utf8.decode ⟨s.toArray⟩ p).2
theorem Xy {s : List By8} (ok : OK h O) (hx : opL n l x = .str s) (ht : stD P t = true) (hk : ∀ i, i ≠ 0 -> OK h ((i, .iter s 0) :: O) -> AY P md w ops os ⟨AK n ((d, .ptr i 0) :: l), Hp h ((i, .iter s 0) :: O)⟩ k) :
  AY P md w ops (⟨some d, .range t x, ty, pos, af, none⟩ :: os) ⟨AK n l, Hp h O⟩ k := Fv (by
 simp only [CC, hx, NR];refine ⟨ht, fun i hf h0 => ?_⟩;obtain ⟨e1, e2⟩ := Hp_new (x := .iter s 0) ok hf h0
 rw [e1]; exact hk i h0 e2)
theorem Yf {s : List By8} {p i j : Nat} {X Y : Option β} (ok : OK h O) (hx : opL n l x = .ptr i 0) (hj : O[j]? = some (i, .iter s p)) (hi : i ≠ 0) (hF : OptP (cond (decide (p < s.length)) X Y) G)
  (h1 : p < s.length -> OK h (O.set j (i, .iter s (p + wdS s p))) -> OptP X G -> AY P md w ops os ⟨AK n ((d, .tup [.bool true, .int .i64 (p : Int), .int .i32 (rnS s p)]) :: l), Hp h (O.set j (i, .iter s (p + wdS s p)))⟩ k)
  (h2 : OptP Y G -> AY P md w ops os ⟨AK n ((d, .tup [.bool false]) :: l), Hp h O⟩ k) : AY P md w ops (⟨some d, .next x true, ty, pos, af, none⟩ :: os) ⟨AK n l, Hp h O⟩ k := Fv (by
 simp only [CC, hx, RB, Hp_get j ok hj hi];rcases Pn hF with ⟨hb, hX⟩ | ⟨hb, hY⟩
 ·have hb' : p < s.length := by simpa using hb
  rw [if_pos hb'];obtain ⟨e1, e2⟩ := Hp_set (y := .iter s (p + wdS s p)) j ok hj hi;have := h1 hb' e2 hX;rw [<- e1] at this; exact this
 ·have hb' : ¬ p < s.length := by simpa using hb
  rw [if_neg hb']
  exact h2 hY)
end
end Go.Proofs.YtjofelloaofooaaGreatDoor
