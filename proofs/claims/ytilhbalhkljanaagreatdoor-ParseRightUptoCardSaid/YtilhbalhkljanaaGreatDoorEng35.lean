/- Calls that take a slice with a right to append: nil as nothing with such a right. No condition. -/
import Derived.Test.YtilhbalhkljanaaGreatDoorEng34
import Derived.Test.YtilhbalhkljanaaGreatDoorEng16
set_option linter.unusedSimpArgs false
set_option linter.unusedVariables false
namespace Go.Proofs.YtilhbalhkljanaaGreatDoor
theorem CallsA.ghost {P : Program} {f : FuncId} {ds : List D} {h : Heap} {O : List (Nat × AObj)} {R : D → Heap → Prop} (j q : Nat) (he : BM P f = true) (ok : OK h O) (hj : ds[j]? = some .snil) (hc : ∀ r, r ≠ 0 → OK h ((r, .room) :: O) → CallsA P f (ds.set j (.sl q [] r)) (Hp h ((r, .room) :: O)) R) : CallsA P f ds (Hp h O) R :=
 .inl ⟨he, fun K w vs H hl hv => by
  obtain ⟨E, H'⟩ := H.ghost q
  have hnz : K.nx ≠ 0 := by have := H.nz; omega
  obtain ⟨e1, e2⟩ := Kc (x := .room) ok H.fresh hnz
  simp only [e1] at H'
  refine (((hc K.nx hnz e2).ent he).2 (K.ghost q) w vs H' (by simpa using hl) (fun i => ?_)).mono fun e w' ⟨v, d, K', h', a, b, c, dd, ee⟩ => ⟨v, d, K', h', a, E.trans b, c, dd, ee⟩
  by_cases hi : i = j
  ·subst hi
   have hlt : i < ds.length := (List.getElem?_eq_some_iff.1 hj).1
   have hvi := hv i
   rw [show ds.getD i .any = .snil by rw [List.getD_eq_getElem?_getD, hj]; rfl] at hvi
   rw [show (ds.set i (.sl q [] K.nx)).getD i .any = .sl q [] K.nx by rw [List.getD_eq_getElem?_getD, List.getElem?_set_self hlt]; rfl]
   generalize vs.getD i undef = z at hvi
   cases hvi
   exact .sln q K.nx (by simp [Kn.ghost])
  ·rw [show (ds.set j (.sl q [] K.nx)).getD i .any = ds.getD i .any by rw [List.getD_eq_getElem?_getD, List.getD_eq_getElem?_getD, List.getElem?_set_ne (Ne.symm hi)]]
   exact (hv i).mono E⟩
theorem WdC.eqR {cs cs' X : List D} (h : WdC cs cs') (e : X = cs') : WdC cs X := by rw [e]; exact h
section
variable {P : Program} {md : Nat → Nat} {ops : Array Oper} {os : List Oper} {k : St → Prop} {n : Nat} {l : List (Nat × D)} {h : Heap} {O : List (Nat × AObj)}
end
end Go.Proofs.YtilhbalhkljanaaGreatDoor
