/- The vault: the changed pages in order. No condition. -/
import Derived.Test.YtoacaikopcdkmaaGreatZ25
import Derived.Test.YtoacaikopcdkmaaGreatSp
set_option linter.unusedSimpArgs false
set_option linter.unusedVariables false
namespace Go.Proofs.YtoacaikopcdkmaaGreat
open Go.RowKit Go.MapKept Go.Shelf
def kN : Value → Int | .int _ q => q | _ => 0
set_option maxRecDepth 100000 in
/-- A map's keys, as the shelf reads them. -/
theorem MapB.owns {w : World} {m : Nat} {L : List (Nat × Value)} (h : MapB w m L) (hL : L.length ≤ maxLen) :
    ∃ D : DataW Unit, w.ownsMap Tryz.prog 3 (fun _ => some (.nil, [])) m L.length D ∧ (intKeys D).Perm (L.map fun p => (p.1 : Int)) ∧ Maps.size D = L.length := by
  obtain ⟨es, clock, hb, H⟩ := h
  have hes : es.size = L.length := by have := congrArg List.length H.eq; simpa using this
  have hk : es.toList.map (·.key) = L.map fun p => kV p.1 := by
    have := congrArg (List.map Prod.fst) H.eq
    simpa [List.map_map, Function.comp_def] using this
  have hrd : ∀ x ∈ es.toList, ∃ k : Nat, x.key = kV k ∧ WideElems.rd (H := Unit) Tryz.prog 3 (fun _ => some (.nil, [])) x = some (.int .i64 (k : Int), .nil) := fun x hx => by
    have h1 : x.key ∈ L.map fun p => kV p.1 := by rw [← hk]; exact List.mem_map.2 ⟨x, hx, rfl⟩
    obtain ⟨p, hp, he⟩ := List.mem_map.1 h1
    refine ⟨p.1, he.symm, ?_⟩
    unfold WideElems.rd
    rw [← he, kV_key ul3 (H.lt p hp)]
    rfl
  refine ⟨_, ⟨es, clock, hb, ⟨by rw [hes]; exact hL, H.st, fun x hx => ?_⟩, Nat.le_of_eq hes, rfl⟩, ?_, ?_⟩
  · obtain ⟨k, _, e⟩ := hrd x hx
    exact ⟨_, e⟩
  · have hp := WideShapes.sorted_perm (es.toList.map (WideElems.rg (H := Unit) Tryz.prog 3 fun _ => some (.nil, [])))
    refine (hp.map _).trans ?_
    rw [List.map_map]
    have e : es.toList.map ((fun p : Lit × DataW Unit => Go.intOf p.1) ∘ WideElems.rg Tryz.prog 3 fun _ => some (.nil, [])) = L.map fun p => (p.1 : Int) := by
      have e1 : ∀ x ∈ es.toList, ((fun p : Lit × DataW Unit => Go.intOf p.1) ∘ WideElems.rg Tryz.prog 3 fun _ => some (.nil, [])) x = kN x.key := fun x hx => by
        obtain ⟨k, e1, e2⟩ := hrd x hx
        show Go.intOf (WideElems.rg Tryz.prog 3 (fun _ => some (.nil, [])) x).1 = _
        unfold WideElems.rg
        rw [e2, e1]
        rfl
      have e2 : es.toList.map (fun x => kN x.key) = (es.toList.map (·.key)).map kN := by rw [List.map_map]; rfl
      rw [List.map_congr_left e1, e2, hk, List.map_map]
      rfl
    rw [e]
  · show ((es.toList.map _).foldr DataW.insert []).length = _
    rw [(WideShapes.sorted_perm _).length_eq, List.length_map, Array.length_toList, hes]
theorem sortsA (m : Nat) : AnyZI.SortsIn Tryz.prog Tryz.sortedA_ren Fence.wide m :=
  ⟨fun blk off cap ss W hH hblk hsz => callsIn_wide.2 (AnyM.slices_Sort_int Tryz.sortA blk off cap ss W hH hblk hsz),
   fun p cap W => callsIn_wide.2 (AnyM.slices_Sort_int_none Tryz.sortA p cap W)⟩
theorem c_keys (mb : Option Nat) (W : World) : Calls Tryz.prog 65 #[.map mb] W fun e w' => e = .returned (.func (.func 112) #[] #[.pointer (some ⟨W.heap.size, 0, none⟩)]) ∧ w' = W.alloc (.cells #[.map mb] 90) := by
  have h := AnyZI.keys_in Tryz.keysA Fence.wide 5 trivial rfl mb W
  exact callsIn_wide.1 h
theorem sorted_ints {ss : List Int} {ch : List Nat} (hp : ss.Perm (ch.map fun k : Nat => (k : Int))) : (ss.mergeSort fun x y => decide (x ≤ y)) = (Vm.isort ch).map fun k : Nat => (k : Int) := by
  have h1 : (ss.mergeSort fun x y => decide (x ≤ y)).Pairwise (fun x y => x ≤ y) := by
    have := List.pairwise_mergeSort (le := fun x y : Int => decide (x ≤ y)) (fun a b c h1 h2 => by simp at *; omega) (fun a b => by simp; omega) ss
    exact this.imp fun h => by simpa using h
  have hins : ∀ (x : Nat) (l : List Nat), (Vm.ins x l).Perm (x :: l) := fun x l => by
    induction l with
    | nil => exact .refl _
    | cons y l ih =>
      unfold Vm.ins
      split
      · exact .refl _
      · exact (ih.cons y).trans (.swap x y l)
  have hiso : ∀ l : List Nat, (Vm.isort l).Perm l := fun l => by
    induction l with
    | nil => exact .refl _
    | cons x l ih => exact (hins x _).trans (ih.cons x)
  have hle : ∀ l : List Nat, (Vm.isort l).Pairwise (· ≤ ·) := fun l => by
    induction l with
    | nil => exact .nil
    | cons x l ih =>
      show (Vm.ins x (Vm.isort l)).Pairwise (· ≤ ·)
      generalize Vm.isort l = m at ih
      induction m with
      | nil => exact List.pairwise_singleton _ _
      | cons y m ihm =>
        unfold Vm.ins
        rw [List.pairwise_cons] at ih
        split
        · rename_i h
          exact List.pairwise_cons.2 ⟨fun z hz => (List.mem_cons.1 hz).elim (fun e => by rw [e]; exact h) (fun hz => Nat.le_trans h (ih.1 z hz)), List.pairwise_cons.2 ih⟩
        · rename_i h
          exact List.pairwise_cons.2 ⟨fun z hz => (List.mem_cons.1 ((hins x m).mem_iff.1 hz)).elim (fun e => by rw [e]; omega) (fun hz => ih.1 z hz), ihm ih.2⟩
  have h2 : ((Vm.isort ch).map fun k : Nat => (k : Int)).Pairwise (fun x y => x ≤ y) := by
    rw [List.pairwise_map]
    exact (hle ch).imp fun h => by omega
  refine List.Perm.eq_of_pairwise (fun a b _ _ h1 h2 => by omega) h1 h2 ?_
  exact (List.mergeSort_perm ss _).trans (hp.trans ((hiso ch).map _).symm)
theorem c_sorted {w : World} {m : Nat} {ch : List Nat} (h : MapB w m (ch.map fun k => (k, .bool true))) (hl : ch.length ≤ 100000) :
    Calls Tryz.prog 64 #[.func (.func 112) #[] #[.pointer (some ⟨w.heap.size, 0, none⟩)]] (w.alloc (.cells #[.map (some m)] 90)) fun e w' => ∃ v, e = .returned v ∧ w'.ownsRow (w.heap.size + 1) 3 1 v ch.length ((Vm.isort ch).map kV) ∧ (v = .slice none 0 0 ↔ ch = []) ∧ Below (w.heap.size + 1) (w.alloc (.cells #[.map (some m)] 90)) w' := by
  have hm : ch.length ≤ maxLen := by simp only [maxLen]; omega
  obtain ⟨D, hown, hperm, hsize⟩ := h.owns (by rw [List.length_map]; exact hm)
  rw [List.length_map] at hown hsize
  rw [List.map_map] at hperm
  have hbl := hown.lt
  have hseq : SeqGives Fence.wide 2 Tryz.prog 112 #[.pointer (some ⟨w.heap.size, 0, none⟩)] encZ (fun ss => ss.Perm (intKeys D)) (Maps.size D) (w.alloc (.cells #[.map (some m)] 90)) :=
    AnyZI.keys_gives (ρ := Tryz.keysA_ren) { Tryz.keysA with } Fence.wide _ trivial rfl (by omega) w.heap.size m ch.length D _ (by simp) (by simp) (by
      obtain ⟨es, clock, hb, Ft, hs, hD⟩ := hown
      exact ⟨es, clock, (Below.heap_alloc _ _ m hbl).trans hb, Ft, hs, hD⟩)
  have cS := AnyZI.sorted_in Tryz.sortedA Fence.wide 5 trivial trivial trivial trivial rfl (by omega) (sortsA _) (enters_of Tryz.func111 (by kernel_rfl) rfl) 112 #[.pointer (some ⟨w.heap.size, 0, none⟩)] trivial (enters_of Tryz.func112 (by kernel_rfl) rfl) _ _ (by rw [hsize]; exact hm) (by rw [hsize]; omega) _ hseq
  change CallsIn _ _ Tryz.prog 64 _ _ _ at cS
  refine (callsIn_wide.1 cS).mono ?_
  rintro e w' ⟨v, ss, rfl, hS, hrow, hnil, hb⟩
  have hp2 : ss.Perm (ch.map fun k : Nat => (k : Int)) := hS.trans hperm
  have hlen : ss.length = ch.length := by have := hp2.length_eq; simpa using this
  rw [sorted_ints hp2, List.map_map, hlen, World.size_alloc] at hrow
  rw [World.size_alloc] at hb
  refine ⟨v, rfl, hrow, hnil.trans ?_, hb⟩
  rw [← List.length_eq_zero_iff, hlen, List.length_eq_zero_iff]
end Go.Proofs.YtoacaikopcdkmaaGreat
