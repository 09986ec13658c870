/- Lists built by appending. No condition. -/
import Derived.Test.YtjofelloaofooaaGreatDoorEng14
set_option linter.unusedSimpArgs false
set_option linter.unusedVariables false
namespace Go.Proofs.YtjofelloaofooaaGreatDoor
theorem Heap.upd_none {h : Heap} {r : Nat} (hr : h r = none) (x : Option AObj) : (h.upd r x).upd r none = h := by
 funext i;by_cases hi : i = r
 ·subst hi; simp [Heap.upd, hr]
 ·simp [Heap.upd, hi]
def Acc {α : Type} (k : Nat) (f : α -> List D) (l : List α) (h0 : Heap) (d : D) (h : Heap) : Prop :=
 (l = [] /\ d = .snil /\ h = h0) \/ ∃ r, r ≠ 0 /\ h0 r = none /\ d = .sl k (l.map f) r /\ h = h0.upd r (some .room)
theorem Acc.nil {α : Type} {k : Nat} {f : α -> List D} (h : Heap) : Acc k f [] h .snil h := .inl ⟨rfl, rfl, rfl⟩
theorem Acc.sl {α : Type} {k : Nat} {f : α -> List D} {l : List α} {h0 : Heap} {d : D} {h : Heap} (a : Acc k f l h0 d h) : SlD k f l d := by
 rcases a with ⟨h1, h2, h3⟩ | ⟨r, h1, h2, h3, h4⟩
 ·exact .inl ⟨h2, h1⟩
 ·exact .inr ⟨r, h3⟩
theorem Acc.at {α : Type} {k : Nat} {f : α -> List D} {l : List α} {h0 : Heap} {d : D} {h : Heap} (a : Acc k f l h0 d h) {i : Nat} (hi : h0 i ≠ none) : h i = h0 i := by
 rcases a with ⟨h1, h2, h3⟩ | ⟨r, h1, h2, h3, h4⟩
 ·rw [h3]
 ·rw [h4, Heap.upd_ne]; intro e; rw [e] at hi; exact hi h2
theorem Acc.append {α : Type} {P : Program} {t u : TypeId} {k B : Nat} {z : List D} {f : α -> List D} {l ms : List α} {h0 h : Heap} {d x : D} {R : D -> Heap -> Prop} (a : Acc k f l h0 d h)
  (he : elD P t = some (k, B, z)) (hu : Fd P u = true) (hx : PM h k x = some (ms.map f)) (h1 : (l.length + ms.length) * B <= 140737488355328) (h2 : l.length + ms.length <= 140737488355328)
  (hR : ∀ d' h', Acc k f (l ++ ms) h0 d' h' -> R d' h') : Ff P 2 h t u d x R := by
 rcases a with ⟨rfl, rfl, rfl⟩ | ⟨r, hr0, hr, rfl, rfl⟩
 ·simp only [bj, Nat.zero_add] at h1 h2;simp only [Ff, he, hx, hu, List.length_map, true_and];refine ⟨h1, h2, fun hn => hR _ _ (.inl ⟨by simpa using hn, rfl, rfl⟩), fun _ r hr hr0 => hR _ _ (.inr ⟨r, hr0, hr, by simp, rfl⟩)⟩
 ·simp only [Ff, he, hx, hu, List.length_map, true_and];refine ⟨h1, h2, Heap.upd_same .., by decide, fun r' hr' hr0' => ?_⟩;rw [Heap.upd_none hr];refine hR _ _ (.inr ⟨r', hr0', ?_, by simp, rfl⟩);by_cases hrr : r' = r
  ·rw [hrr]; exact hr
  ·rw [Heap.upd_ne _ _ hrr] at hr'; exact hr'
end Go.Proofs.YtjofelloaofooaaGreatDoor
