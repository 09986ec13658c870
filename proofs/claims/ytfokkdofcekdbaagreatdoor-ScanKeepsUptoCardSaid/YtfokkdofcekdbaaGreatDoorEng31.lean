/- Arrays as values: built, and indexed by a variable. No condition. -/
import Derived.Test.YtfokkdofcekdbaaGreatDoorEng30
set_option linter.unusedSimpArgs false
set_option linter.unusedVariables false
namespace Go.Proofs.YtfokkdofcekdbaaGreatDoor
def idxN {α : Type} (m : Nat) (l : List α) (i : Int) : Option α := if i < (m : Int) then idx l i else none
theorem b_arr {P : Program} {t e : TypeId} {k n : Nat} {z cs : List D} {parts : List (Nat × D)} (hz : zcD P t = some z) (hp : plD P t = none) (ha : arD P t = some (n, e)) (hs : szD P e = some k) (hf : fillD (fun i => some (i * k, k)) z parts = some cs) : buildD P t parts = some (.agg cs) := by
  simp only [buildD, hz, hp, ha, hs, hf]; rfl
section
variable {P : Program} {md : Nat → Nat} {w : Bool} {ops : Array Oper} {os : List Oper} {k : St → Prop} {n : Nat} {l : List (Nat × D)} {h : Heap} {d : Nat} {t ty : TypeId} {pos : String} {af : Array Edge} {x y z : Operand}
variable {β : Type} {G : β → Prop}
theorem S_ixN {α : Type} {g : α → D} {K : IntKind} {i : Int} {m : Nat} {e : TypeId} {a : List α} {f : α → Option β} (hx : opL n l x = .agg (List.map g a)) (hy : opL n l y = .int K i) (ha : arD P t = some (m, e)) (hq : szD P e = some 1) (hg : agD P e = some false)
    (hF : OptP ((idxN m a i).bind f) G) (hk : ∀ b, idxN m a i = some b → OptP (f b) G → seqQ P md w ops os ⟨mkSl n ((d, g b) :: l), h⟩ k) : seqQ P md w ops (⟨some d, .index t x y, ty, pos, af, none⟩ :: os) ⟨mkSl n l, h⟩ k := S_of (by
  obtain ⟨b, hb, hF⟩ := F_bind hF
  have hb' := hb
  unfold idxN at hb'
  split at hb'
  · rename_i h1
    unfold idx at hb'
    split at hb'
    · rename_i h0
      have hd : (List.map g a).drop (i.toNat * 1) = g b :: (List.map g a).drop (i.toNat * 1 + 1) := by
        obtain ⟨hlt, he⟩ := List.getElem?_eq_some_iff.1 hb'
        rw [Nat.mul_one, List.drop_eq_getElem_cons (by simpa using hlt), List.getElem_map, he]
      have hD : indexD P t (.agg (List.map g a)) (.int K i) = some (g b) := by
        simp only [indexD, ha, hq]
        rw [if_pos ⟨h0, h1⟩]
        exact p_one hg hq hd
      simp only [effD, hx, hy, hD, OptP_some]
      exact hk b hb hF
    · cases hb'
  · cases hb')
end
end Go.Proofs.YtfokkdofcekdbaaGreatDoor
