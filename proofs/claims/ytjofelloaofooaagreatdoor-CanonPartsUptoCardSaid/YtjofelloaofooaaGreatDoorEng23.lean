/- Errors, function values, functions that call themselves, ranging over strings, lists in fields. No condition. -/
import Derived.Test.YtjofelloaofooaaGreatDoorEng22
set_option linter.unusedSimpArgs false
set_option linter.unusedVariables false
namespace Go.Proofs.YtjofelloaofooaaGreatDoor
def ifD : Bool -> D
 | true => .ifc
 | false => .inil
theorem Wd.toE {d : D} {cs cs' : List D} (h : Wd d (.agg cs)) (e : cs' = cs) : Wd d (.agg cs') := e ▸ h
section
variable {P : Program} {md : Nat -> Nat} {w : Bool} {ops : Array Oper} {os : List Oper} {k : St -> Prop} {n : Nat} {l : List (Nat × D)} {h : Heap} {d : Nat} {t ty : TypeId} {pos : String} {af : Array Edge} {x y z : Operand}
variable {β : Type} {G : β -> Prop} {O : List (Nat × AObj)}
theorem MF {d : Nat} {v : D} (hv : Gl l d = v) (hk : AO P md w ops os ⟨AH n ((d, v) :: l), h⟩ k) : AO P md w ops os ⟨AH n l, h⟩ k := by
 have e : AH n ((d, v) :: l) = AH n l := by
  unfold AH;refine List.map_congr_left fun t _ => ?_;show (match Nat.beq d t with | true => v | false => Gl l t) = Gl l t
  cases hb : Nat.beq d t with
  | true => rw [Nat.beq_eq] at hb; subst hb; exact hv.symm
  | false => rfl
 rw [e] at hk; exact hk
theorem B6 {g : FuncId} {ds : List D} {ρ : Type} {X : Option ρ} {enc : ρ -> D} (hw : ∀ (G : ρ -> Prop) (h : Heap), OptP X G -> CallsA P g ds h fun d h' => ∃ r, G r /\ d = enc r /\ h' = h)
  {f0 : ρ -> Option β} {R : D -> Heap -> Prop} (h : Heap) (hF : OptP (X.bind f0) G) (hk : ∀ r, X = some r -> OptP (f0 r) G -> R (enc r) h) : CallsA P g ds h R := by
 obtain ⟨r0, hr, hF⟩ := Bp hF;refine (hw (fun r => r = r0) h ⟨r0, hr, rfl⟩).mono ?_;rintro _ _ ⟨r, rfl, rfl, rfl⟩;exact hk _ hr hF
theorem JG {g : FuncId} {fi ca : List D} {args : Array Operand} {ts : Array TypeId} {ds : List D} (hf : opL n l x = .fn (.func g) fi ca) (hc : CallsA P g ds h fun v h' => AO P md w ops os ⟨AH n ((d, v) :: l), h'⟩ k)
  (hw : WdC (fi ++ args.toList.map (opL n l) ++ ca) ds) : AO P md w ops (⟨some d, .call ⟨.value x, args, ts⟩, ty, pos, af, none⟩ :: os) ⟨AH n l, h⟩ k := E4 (by
 have := hc.arg hw
 simpa only [BB, hf] using this)
def rnS (s : List By8) (p : Nat) : Int := (Utf8.decode ⟨s.toArray⟩ p).1
def wdS (s : List By8) (p : Nat) : Nat := (Utf8.decode ⟨s.toArray⟩ p).2
theorem VM {s : List By8} (ok : OK h O) (hx : opL n l x = .str s) (ht : stD P t = true) (hk : ∀ i, i ≠ 0 -> OK h ((i, .iter s 0) :: O) -> AO P md w ops os ⟨AH n ((d, .ptr i 0) :: l), Hp h ((i, .iter s 0) :: O)⟩ k) :
  AO P md w ops (⟨some d, .range t x, ty, pos, af, none⟩ :: os) ⟨AH n l, Hp h O⟩ k := E4 (by
 simp only [BB, hx, KT];refine ⟨ht, fun i hf h0 => ?_⟩;obtain ⟨e1, e2⟩ := Hp_new (x := .iter s 0) ok hf h0
 rw [e1]; exact hk i h0 e2)
theorem VZ {s : List By8} {p i j : Nat} {X Y : Option β} (ok : OK h O) (hx : opL n l x = .ptr i 0) (hj : O[j]? = some (i, .iter s p)) (hi : i ≠ 0) (hF : OptP (cond (decide (p < s.length)) X Y) G)
  (h1 : p < s.length -> OK h (O.set j (i, .iter s (p + wdS s p))) -> OptP X G -> AO P md w ops os ⟨AH n ((d, .tup [.bool true, .int .i64 (p : Int), .int .i32 (rnS s p)]) :: l), Hp h (O.set j (i, .iter s (p + wdS s p)))⟩ k)
  (h2 : OptP Y G -> AO P md w ops os ⟨AH n ((d, .tup [.bool false]) :: l), Hp h O⟩ k) : AO P md w ops (⟨some d, .next x true, ty, pos, af, none⟩ :: os) ⟨AH n l, Hp h O⟩ k := E4 (by
 simp only [BB, hx, Pa, Hp_get j ok hj hi];rcases MI hF with ⟨hb, hX⟩ | ⟨hb, hY⟩
 ·have hb' : p < s.length := by simpa using hb
  rw [if_pos hb'];obtain ⟨e1, e2⟩ := Hp_set (y := .iter s (p + wdS s p)) j ok hj hi;have := h1 hb' e2 hX;rw [<- e1] at this; exact this
 ·have hb' : ¬ p < s.length := by simpa using hb
  rw [if_neg hb']
  exact h2 hY)
end
end Go.Proofs.YtjofelloaofooaaGreatDoor
