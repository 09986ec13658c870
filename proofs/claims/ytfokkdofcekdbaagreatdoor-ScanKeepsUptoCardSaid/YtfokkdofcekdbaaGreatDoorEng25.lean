/- READERS THAT ALSO GIVE THE SIZE: what reads is of at most the reading's bulk. No condition. -/
import Derived.Test.YtfokkdofcekdbaaGreatDoorEng24
import Derived.Test.YtfokkdofcekdbaaGreatDoorEng17
import Derived.Test.YtfokkdofcekdbaaGreatDoorRows
set_option linter.unusedVariables false
set_option linter.unusedSimpArgs false
set_option maxRecDepth 20000
namespace Go.Proofs.YtfokkdofcekdbaaGreatDoor
open Go.ChangeShapes Go.WideShapes Go.ChangeAt Go.RowKit
theorem blk_pos {H : Type} (d : DataW H) : 1 ≤ Rows.uptoBulk d := by
 cases d with
 | lit l => cases l <;> simp [Rows.uptoBulk]
 | nil => simp [Rows.uptoBulk]
 | ptr d => simp [Rows.uptoBulk]
 | slice elems spare => simp [Rows.uptoBulk]
 | agg parts => simp [Rows.uptoBulk]
 | iface t d => simp [Rows.uptoBulk]
 | map entries => simp [Rows.uptoBulk]
 | held h => simp [Rows.uptoBulk]
theorem blkA_sum {H : Type} (l : List (DataW H)) : Rows.uptoBulkAll l = (l.map Rows.uptoBulk).sum := by
 induction l with
 | nil => simp [Rows.uptoBulkAll]
 | cons x r ih => simp [Rows.uptoBulkAll, ih]
theorem sum_le_sum : ∀ (l m : List Nat), l.length = m.length → (∀ i, i < l.length → l.getD i 0 ≤ m.getD i 0) → l.sum ≤ m.sum
 | [], [], _, _ => by simp
 | a :: l, b :: m, hl, h => by
  have h0 : a ≤ b := h 0 (by simp)
  have := sum_le_sum l m (by simpa using hl) (fun i hi => by have := h (i + 1) (by simpa using hi); simpa using this)
  simp only [List.sum_cons]; omega
namespace B
section
variable {H : Type} {enc : TypeId × Value → H} {P : Program} {w : World} {base : Nat} {spare : Nat → Bool} {held : Bool} {fuel : Nat} {t : TypeId} {cs : List Value} {x : DataW H × List MemPlace} {N : Nat}
def Rds (N : Nat) (enc : TypeId × Value → H) (P : Program) (w : World) (base : Nat) (spare : Nat → Bool) (held : Bool) (t : TypeId) {X : Type} (ok : X → Prop) (sz : X → Nat) (c : X → List D) : Prop :=
 ∀ fuel, fuel ≤ N → ∀ cs x, DataW.trod enc P w base spare held fuel t cs = some x → ∃ y, (ok y ∧ sz y ≤ Rows.uptoBulk x.1) ∧ LR (Kn.init w) cs (c y)
theorem Rds.zero {X : Type} {ok : X → Prop} {sz : X → Nat} {c : X → List D} : Rds 0 enc P w base spare held t ok sz c := fun fuel hf cs x h => by
 obtain rfl : fuel = 0 := by omega
 simp [DataW.trod] at h
theorem rd_int {k : IntKind} (ht : P.underlying t = some (.int k)) : Rds N enc P w base spare held t (okI k) (fun _ => 1) (fun n => [.int k n]) := fun fuel _ cs x h => by
 obtain ⟨n, rfl, _, hw⟩ := DataW.trod_int ht h
 exact ⟨n, ⟨(Lit.wf_int_iff k n).1 hw, blk_pos _⟩, .one rfl (.int k n)⟩
theorem rd_slice {e : TypeId} {X : Type} {ok : X → Prop} {sz : X → Nat} {c : X → List D} {k : Nat} (ht : P.underlying t = some (.slice e)) (hk : P.cellsOf e = k) (hk0 : 0 < k) (hc : ∀ y, ok y → (c y).length = k)
  (hE : Rds N enc P w base (fun _ => true) held e ok sz c) : Rds N enc P w base (fun _ => true) held t (fun l : List X => (∀ y ∈ l, ok y) ∧ l.length ≤ 9223372036854775807) (fun l => (l.map sz).sum + 1) (fun l => [.sl k (l.map c) 0]) := fun fuel hN cs x h => by
 rcases DataW.trod_slice ht h with ⟨rfl, _⟩ | ⟨a, len, cap, elems, rest, n, hfn, rfl, hx0, hb, hl, hm, hlen, hel, hsp, _⟩
 ·exact ⟨[], ⟨⟨by simp, by simp⟩, by simpa using blk_pos _⟩, .one rfl (.slz k none)⟩
 ·have hm' : len ≤ 9223372036854775807 := by unfold maxLen at hm; omega
  rcases Nat.eq_zero_or_pos cap with h0 | h0
  ·have : len = 0 := by omega
   subst h0 this
   exact ⟨[], ⟨⟨by simp, by simp⟩, by simpa using blk_pos _⟩, .one rfl (.slz k (some a))⟩
  ·rw [hk] at hel hsp
   have each : ∀ i, (hi : i < len) → ∃ csi y, w.cells? base (a.add (i * k)) k = some csi ∧ (ok y ∧ sz y ≤ Rows.uptoBulk (elems[i]'(by omega)).1) ∧ LR (Kn.init w) csi (c y) := fun i hi => by
    have h1 := hel i hi
    have h2 : elems[i]? = some elems[i] := by rw [List.getElem?_eq_getElem]
    rw [h2, Option.bind_eq_some_iff] at h1
    obtain ⟨csi, h3, h4⟩ := h1
    obtain ⟨y, hy, hr⟩ := hE n (by omega) csi _ h4
    exact ⟨csi, y, h3, hy, hr⟩
   have hspot : a.spot = none := by
    have hz : ∃ csi, w.cells? base (a.add (0 * k)) k = some csi := by
     rcases Nat.eq_zero_or_pos len with hl0 | hl0
     ·obtain ⟨hrl, hr⟩ := hsp rfl
      have h1 := hr 0 (by omega)
      have hlt : 0 < rest.length := by omega
      rw [List.getElem?_eq_getElem hlt, Option.bind_eq_some_iff] at h1
      obtain ⟨csi, h3, _⟩ := h1
      exact ⟨csi, by rw [hl0] at h3; exact h3⟩
     ·obtain ⟨csi, _, h3, _⟩ := each 0 hl0
      exact ⟨csi, h3⟩
    obtain ⟨csi, hz⟩ := hz
    obtain ⟨_, hlc, hcell⟩ := World.cells?_some hz
    have h1 := hcell 0 (by omega)
    have hlt : 0 < csi.length := by omega
    rw [List.getElem?_eq_getElem hlt] at h1
    have e1 : ((a.add (0 * k)).add 0) = a := by simp [Addr.add]
    rw [e1] at h1
    cases hs : a.spot with
    | none => rfl
    | some q =>
     unfold World.cell? at h1
     simp only [hs, Option.isSome_some, if_true] at h1
     split at h1 <;> simp at h1
   obtain ⟨b, o, sp⟩ := a
   simp only at hspot
   subst hspot
   have hex : ∀ i : Fin len, ∃ y, (ok y ∧ sz y ≤ Rows.uptoBulk (elems[i.1]'(by omega)).1) ∧ ∃ csi, w.cells? base (⟨b, o + i.1 * k, none⟩ : Addr) k = some csi ∧ LR (Kn.init w) csi (c y) := fun i => by
    obtain ⟨csi, y, h1, h2, h3⟩ := each i.1 i.2
    rw [addr_add] at h1
    exact ⟨y, h2, csi, h1, h3⟩
   have hch : ∃ (f : Fin len → X) (g : Fin len → List Value), ∀ i, (ok (f i) ∧ sz (f i) ≤ Rows.uptoBulk (elems[i.1]'(by omega)).1) ∧ w.cells? base (⟨b, o + i.1 * k, none⟩ : Addr) k = some (g i) ∧ LR (Kn.init w) (g i) (c (f i)) :=
    ⟨fun i => Classical.choose (hex i), fun i => Classical.choose (Classical.choose_spec (hex i)).2, fun i => by
     obtain ⟨h1, h2⟩ := Classical.choose_spec (hex i)
     obtain ⟨h3, h4⟩ := Classical.choose_spec h2
     exact ⟨h1, h3, h4⟩⟩
   obtain ⟨f, g, hf⟩ := hch
   have hget : ∀ i (hi : i < len), ((List.ofFn f).map c).getD i [] = c (f ⟨i, hi⟩) := fun i hi => by simp [List.getD, hi]
   have hge : ∀ i, ¬ i < len → ((List.ofFn f).map c).getD i [] = [] := fun i hi => by simp [List.getD, hi]
   refine ⟨List.ofFn f, ⟨⟨fun y hy => ?_, by simpa using hm'⟩, ?_⟩, .one rfl ?_⟩
   ·obtain ⟨i, rfl⟩ := List.mem_ofFn.1 hy
    exact (hf i).1.1
   ·subst hx0
    simp only [Rows.uptoBulk]
    have hs : ((List.ofFn f).map sz).sum ≤ Rows.uptoBulkAll (elems.map (·.1)) := by
     rw [blkA_sum]
     refine sum_le_sum _ _ (by simp [hlen]) (fun i hi => ?_)
     have hi' : i < len := by simpa using hi
     have he : i < elems.length := by omega
     have := (hf ⟨i, hi'⟩).1.2
     simpa [List.getD, hi', he] using this
    omega
   ·let vs : Nat → Nat → Value := fun i j => if h : i < len ∧ j < k then (g ⟨i, h.1⟩).getD j undef else undef
    have := VR.sl (K := Kn.init w) b o k ((List.ofFn f).map c) 0 cap vs (fun i hi => by
      have hi' : i < len := by simpa using hi
      rw [hget i hi']; exact hc _ (hf _).1.1)
     (fun i j hi hj => by
      have hi' : i < len := by simpa using hi
      obtain ⟨_, h1, h2⟩ := hf ⟨i, hi'⟩
      have hv : vs i j = (g ⟨i, hi'⟩).getD j undef := by simp [vs, hi', hj]
      obtain ⟨_, hlc, hcell⟩ := World.cells?_some h1
      have h3 := hcell j hj
      have hj' : j < (g ⟨i, hi'⟩).length := by omega
      rw [List.getElem?_eq_getElem hj', addr_add] at h3
      have e : (g ⟨i, hi'⟩).getD j undef = (g ⟨i, hi'⟩)[j] := by simp [List.getD, hj']
      rw [hv, e]
      refine init_mu h3 ?_
      have := (h2.get j).2 hj'
      rwa [e] at this)
     (fun i j => by
      by_cases hi : i < len
      ·rw [hget i hi]
       obtain ⟨h0, h1, h2⟩ := hf ⟨i, hi⟩
       by_cases hj : j < k
       ·have hv : vs i j = (g ⟨i, hi⟩).getD j undef := by simp [vs, hi, hj]
        rw [hv]; exact (h2.get j).1
       ·have hcl := hc _ h0.1
        have : (c (f ⟨i, hi⟩)).getD j D.any = D.any := by
         simp [List.getD, List.getElem?_eq_none (by omega : (c (f ⟨i, hi⟩)).length ≤ j)]
        rw [this]; exact .any _
      ·rw [hge i hi]; simp; exact .any _)
     (by simpa using hl) (by simp)
    simpa using this
inductive RdF (N : Nat) (enc : TypeId × Value → H) (P : Program) (w : World) (base : Nat) (spare : Nat → Bool) (held : Bool) : (off : Nat) → List Field → {X : Type} → (X → Prop) → (X → Nat) → (X → List D) → Prop
 | nil {off : Nat} : RdF N enc P w base spare held off [] (fun _ : Unit => True) (fun _ => 0) (fun _ => [])
 | cons {off k : Nat} {f : Field} {fs : List Field} {X Y : Type} {ok : X → Prop} {sz : X → Nat} {c : X → List D} {ok' : Y → Prop} {sz' : Y → Nat} {c' : Y → List D} (ho : f.offset = off) (hk : P.cellsOf f.type = k)
   (h : Rds N enc P w base spare held f.type ok sz c) (r : RdF N enc P w base spare held (off + k) fs ok' sz' c') : RdF N enc P w base spare held off (f :: fs) (fun y : X × Y => ok y.1 ∧ ok' y.2) (fun y => sz y.1 + sz' y.2) (fun y => c y.1 ++ c' y.2)
theorem mono {X : Type} {ok : X → Prop} {sz : X → Nat} {c : X → List D} {ok' : X → Prop} (h : Rds N enc P w base spare held t ok sz c) (hok : ∀ y, ok y → ok' y) : Rds N enc P w base spare held t ok' sz c := fun fuel hN cs x hx => by
 obtain ⟨y, hy, hr⟩ := h fuel hN cs x hx
 exact ⟨y, ⟨hok y hy.1, hy.2⟩, hr⟩
end
end B
end Go.Proofs.YtfokkdofcekdbaaGreatDoor
