/- READERS THAT ALSO GIVE THE SIZE: what reads is of at most the reading's bulk. No condition. -/
import Derived.Test.YtilhbalhkljanaaGreatDoorEng24
import Derived.Test.YtilhbalhkljanaaGreatDoorEng17
import Derived.Test.YtilhbalhkljanaaGreatDoorRows
set_option linter.unusedVariables false
set_option linter.unusedSimpArgs false
set_option maxRecDepth 20000
namespace Go.Proofs.YtilhbalhkljanaaGreatDoor
open Go.ChangeShapes Go.WideShapes Go.ChangeAt Go.RowKit
namespace B
section
variable {H : Type} {enc : TypeId × Value → H} {P : Program} {w : World} {base : Nat} {spare : Nat → Bool} {held : Bool} {fuel : Nat} {t : TypeId} {cs : List Value} {x : DataW H × List MemPlace} {N : Nat}
def Rds (N : Nat) (enc : TypeId × Value → H) (P : Program) (w : World) (base : Nat) (spare : Nat → Bool) (held : Bool) (t : TypeId) {X : Type} (ok : X → Prop) (sz : X → Nat) (c : X → List D) : Prop :=
 ∀ fuel, fuel ≤ N → ∀ cs x, DataW.trod enc P w base spare held fuel t cs = some x → ∃ y, (ok y ∧ sz y ≤ Rows.uptoBulk x.1) ∧ LR (Kn.init w) cs (c y)
theorem Rds.zero {X : Type} {ok : X → Prop} {sz : X → Nat} {c : X → List D} : Rds 0 enc P w base spare held t ok sz c := fun fuel hf cs x h => by
 obtain rfl : fuel = 0 := by omega
 simp [DataW.trod] at h
theorem rd_str (ht : P.underlying t = some .string) : Rds N enc P w base spare held t (fun s : List UInt8 => s.length ≤ 9223372036854775807) (fun s => s.length + 1) (fun s => [.str s]) := fun fuel _ cs x h => by
 obtain ⟨s, rfl, hx, hw⟩ := DataW.trod_string ht h
 refine ⟨s.data.toList, ⟨?_, ?_⟩, .one rfl ?_⟩
 ·unfold maxLen at hw
  have : s.data.toList.length = s.size := by rw [Array.length_toList]; rfl
  omega
 ·subst hx; simp [Rows.uptoBulk]
 ·exact VR.str s.data.toList
inductive RdF (N : Nat) (enc : TypeId × Value → H) (P : Program) (w : World) (base : Nat) (spare : Nat → Bool) (held : Bool) : (off : Nat) → List Field → {X : Type} → (X → Prop) → (X → Nat) → (X → List D) → Prop
 | nil {off : Nat} : RdF N enc P w base spare held off [] (fun _ : Unit => True) (fun _ => 0) (fun _ => [])
 | cons {off k : Nat} {f : Field} {fs : List Field} {X Y : Type} {ok : X → Prop} {sz : X → Nat} {c : X → List D} {ok' : Y → Prop} {sz' : Y → Nat} {c' : Y → List D} (ho : f.offset = off) (hk : P.cellsOf f.type = k)
   (h : Rds N enc P w base spare held f.type ok sz c) (r : RdF N enc P w base spare held (off + k) fs ok' sz' c') : RdF N enc P w base spare held off (f :: fs) (fun y : X × Y => ok y.1 ∧ ok' y.2) (fun y => sz y.1 + sz' y.2) (fun y => c y.1 ++ c' y.2)
theorem mono {X : Type} {ok : X → Prop} {sz : X → Nat} {c : X → List D} {ok' : X → Prop} (h : Rds N enc P w base spare held t ok sz c) (hok : ∀ y, ok y → ok' y) : Rds N enc P w base spare held t ok' sz c := fun fuel hN cs x hx => by
 obtain ⟨y, hy, hr⟩ := h fuel hN cs x hx
 exact ⟨y, ⟨hok y hy.1, hy.2⟩, hr⟩
end
end B
end Go.Proofs.YtilhbalhkljanaaGreatDoor
