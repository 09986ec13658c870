/- Calls that are met by a contract: memory that was there stays. No condition. -/
import Derived.Below
import Derived.Test.YtjofelloaofooaaGreatDoorEng23
set_option linter.unusedSimpArgs false
set_option linter.unusedVariables false
namespace Go.Proofs.YtjofelloaofooaaGreatDoor
open Go.RowKit
theorem Keep.below {w w' : World} (hb : Below w.heap.size w w') (S : Nat -> Nat -> Prop) : Keep w w' S :=
 ⟨fun b o h _ => ⟨hb.cell (p := ⟨b, o, none⟩) h, hb.frozen (p := ⟨b, o, none⟩) h⟩, fun b h _ => hb.block b h, hb.size, hb.os, hb.output, hb.tape⟩
theorem HR.under {K : Kn} {h : Heap} {w w' : World} (H : HR K h w) (hb : Below w.heap.size w w') : HR K h w' :=
 HR.change (C := fun _ => False) H (Ext.refl K) (Keep.below hb (fun _ _ => False)) (fun _ _ h => h.elim) (fun _ _ => .inl rfl) (fun _ _ _ hv => .inl hv) H.z (fun _ _ h => h.elim)
def Kn.learn (K : Kn) (g : Nat) (f : Nat -> Option Value) : Kn := { K with mu := fun b o => if b = g then f o else K.mu b o }
theorem HR.learn {K : Kn} {h : Heap} {w w' : World} (H : HR K h w) (hb : Below w.heap.size w w') {g : Nat} (hg : w.heap.size <= g) (f : Nat -> Option Value) (hf : ∀ o v, f o = some v -> w'.cell? ⟨g, o, none⟩ = some v /\ v.oneCell' = true) :
  Ext K (K.learn g f) /\ HR (K.learn g f) h w' := by
 have E : Ext K (K.learn g f) := by
  refine ⟨fun b o v hv => ?_, fun _ _ => rfl, fun _ _ => rfl, fun _ _ => rfl, Nat.le_refl _, rfl, rfl⟩;have hlt := NJ H hv;have hne : b ≠ g := by omega
  simp only [Kn.learn, if_neg hne]; exact hv
 refine ⟨E, HR.change (C := fun _ => False) H E (Keep.below hb (fun _ _ => False)) (fun _ _ h => h.elim) (fun _ _ => .inl rfl) (fun b o v hv => ?_) H.z (fun _ _ h => h.elim)⟩;simp only [Kn.learn] at hv;split at hv
 ·rename_i he;subst he;refine .inr ⟨(hf o v hv).1, (hf o v hv).2, fun j y _ hy ho => ?_⟩;have := G3 H hy ho; omega
 ·exact .inl hv
theorem Ea {P : Program} {f : FuncId} {args : List D} {h : Heap} {R : D -> Heap -> Prop} {d : D} (he : Ds P f = true) (hR : R d h)
  (hc : ∀ (K : Kn) (w : World) (vs : Array Value), HR K h w -> vs.size = args.length -> (∀ i, VR K (vs.getD i undef) (args.getD i .any)) ->
   Calls P f vs w fun e w' => ∃ v K', e = .returned v /\ Ext K K' /\ HR K' h w' /\ VR K' v d) : CallsA P f args h R :=
 .inl ⟨he, fun K w vs H hl hv => (hc K w vs H hl hv).mono fun e w' ⟨v, K', a, b, c, dd⟩ => ⟨v, d, K', h, a, b, c, dd, hR⟩⟩
theorem Fi {K : Kn} {v : Value} {s : List By8} (h : VR K v (.str s)) : v = .string ⟨s.toArray⟩ := by cases h; rfl
theorem Ke {K : Kn} {v : Value} {k : IntKind} {n : Int} (h : VR K v (.int k n)) : v = .int k n := by cases h; rfl
theorem Vs {K : Kn} {h : Heap} {w : World} {v : Value} {α : Type} {c : α -> D} {l : List α} (H : HR K h w) (hv : VR K v (.sl 1 (l.map fun x => [c x]) 0)) :
  (l = [] /\ ∃ a, v = .slice a 0 0) \/ ∃ b o cap, v = .slice (some ⟨b, o, none⟩) l.length cap /\ l.length <= cap /\ ∀ j x, l[j]? = some x -> ∃ u, w.cell? ⟨b, o + j, none⟩ = some u /\ VR K u (c x) := by
 generalize hes : (l.map fun x => [c x]) = es at hv
 cases hv with
 | slz _ a => exact .inl ⟨by simpa using hes, a, rfl⟩
 | sln _ _ _ => exact .inl ⟨by simpa using hes, none, rfl⟩
 | sl b o _ _ _ cap vs hk hm hr hc _ =>
  subst hes;have hlen : (l.map fun x => [c x]).length = l.length := by simp
  refine .inr ⟨b, o, cap, by rw [hlen], by simpa using hc, fun j x hx => ?_⟩;obtain ⟨hlt, rfl⟩ := List.getElem?_eq_some_iff.1 hx;have h1 := hm j 0 (by simpa using hlt) (by decide);have h2 := hr j 0;rw [Nat.mul_one, Nat.add_zero] at h1;refine ⟨_, (H.mu _ _ _ h1).1, ?_⟩;simpa [List.getD, hlt] using h2
end Go.Proofs.YtjofelloaofooaaGreatDoor
