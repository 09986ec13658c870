/- bytes.Count of one byte, bytes.Equal, bytes.Clone. No condition. -/
import Derived.Test.YtoacaikopcdkmaaGreatZ09
import Derived.Shelf.Bytes.SlCountOne
import Derived.Laws.IdiomStrings
set_option linter.unusedSimpArgs false
set_option linter.unusedVariables false
namespace Go.Proofs.YtoacaikopcdkmaaGreat
open Go.RowKit Go.Sort
theorem bytesOf_nat (p : List UInt8) : Lib.bytesOf (p.map fun b => (b.toNat : Int)) = p := by
  unfold Lib.bytesOf
  rw [List.map_map]
  conv => rhs; rw [← List.map_id p]
  exact List.map_congr_left fun b _ => by simp
set_option maxRecDepth 100000 in
theorem c_count (b o n c b2 o2 d : Nat) (p : List UInt8) (w : World) (hp : p.length = n) (hr : w.rangeAt b o (byC p)) (h2 : w.cell? ⟨b2, o2, none⟩ = some (.int .u8 0)) :
    Calls Tryz.prog 141 #[.slice (some ⟨b, o, none⟩) n c, .slice (some ⟨b2, o2, none⟩) 1 d] w fun e w' => e = .returned (.int .i64 (p.count 0 : Int)) ∧ w' = w := by
  have hrun := Lib.run_countSlice (P := Tryz.prog) w b o n c (p.map fun b => (b.toNat : Int)) (by rw [List.length_map, hp]) (fun i hi => by
    rw [range_byte hr i (by omega)]
    simp [List.getD_eq_getElem?_getD, List.getElem?_eq_getElem (show i < p.length by omega)]) 0
  rw [bytesOf_nat] at hrun
  have hrun' := Hid.mk hrun
  clear hrun hr hp
  go_enter Tryz.func141, Tryz.ntmps141
  go_wp2
  rw [run_callFunc_extern Tryz.func149 (by kernel_rfl) (by kernel_rfl) (by kernel_rfl) (e := Extern.BytealgCount.count) (by kernel_rfl), hrun'.out]
  simp only [Result.andThen]
  rw [Oper.upon_value]
  go_wp2
  go_ret
  exact ⟨rfl, rfl⟩
set_option maxRecDepth 100000 in
theorem c_equal (b o n c b2 o2 m d : Nat) (p q : List UInt8) (w : World) (hp : p.length = n) (hq : q.length = m) (hr : w.rangeAt b o (byC p)) (h2 : w.rangeAt b2 o2 (byC q)) :
    Calls Tryz.prog 137 #[.slice (some ⟨b, o, none⟩) n c, .slice (some ⟨b2, o2, none⟩) m d] w fun e w' => e = .returned (.bool (p == q)) ∧ w' = w := by
  have e1 := run_convert_bytes_back (P := Tryz.prog) w 22 9 5 ⟨b, o, none⟩ c p Tryz.underlying22 Tryz.underlying5 Tryz.underlying9 (fun j hj => by rw [Addr.add_mid]; refine hr j _ ?_; unfold byC; rw [List.getElem?_map, List.getElem?_eq_getElem hj]; rfl)
  have e2 := run_convert_bytes_back (P := Tryz.prog) w 22 9 5 ⟨b2, o2, none⟩ d q Tryz.underlying22 Tryz.underlying5 Tryz.underlying9 (fun j hj => by rw [Addr.add_mid]; refine h2 j _ ?_; unfold byC; rw [List.getElem?_map, List.getElem?_eq_getElem hj]; rfl)
  rw [hp] at e1
  rw [hq] at e2
  clear hr h2 hp hq
  go_enter Tryz.func137, Tryz.ntmps137
  go_wp2
  go_ret
  exact ⟨rfl, rfl⟩
set_option maxRecDepth 100000 in
set_option maxHeartbeats 1600000 in
theorem c_bclone (g o n cap : Nat) (xs : List Value) (w : World) (hn : 0 < n) (hl : xs.length = n * 1) (hx : w.rangeAt g o xs) (h1 : ∀ u ∈ xs, u.oneCell' = true) (hN : n ≤ 1000000000) :
    Calls Tryz.prog 142 #[.slice (some ⟨g, o, none⟩) n cap] w fun e w' => ∃ h c, e = .returned (.slice (some ⟨h, 0, none⟩) n c) ∧ w.heap.size ≤ h ∧ w'.ownsRow w.heap.size 5 1 (.slice (some ⟨h, 0, none⟩) n c) n xs ∧ Below w.heap.size w w' := by
  have hn' : ¬ (n = 0) := by omega
  have q1 : ∀ a l c W, (binOp .eql 22 (.slice a l c) (.slice none 0 0)).run Tryz.prog W = .ok (.bool a.isNone) W := fun a l c W => Lib.run_eql_slice_nil W 22 _ a l c 0 0 Tryz.underlying22
  have hx' := Hid.mk hx
  have hl' := Hid.mk hl
  clear hx hl
  obtain ⟨i0, z, hi, hz0, hz1, hz2, hz3⟩ := info_sz (t := 5) (size := 1) (bytes := 1) (zs := 1) (by kernel_rfl)
  go_enter Tryz.func142, Tryz.ntmps142
  go_wp2_with (at_builtin; refine wpList_append_lies _ rfl _ _ _ rfl w.heap.size 5 i0 z 1 1 Tryz.underlying22 hi hz0 hz1 hz2 hz3 (by omega) (.slice (some ⟨w.heap.size, 0, none⟩) 0 0) 0 [] rfl (World.ownsRow_made w #[] 0 (Nat.le_refl _) (by decide) rfl) ⟨g, o, none⟩ n cap xs rfl hl'.out (fun j u hj => by rw [Addr.add_mid]; exact World.rangeAt_alloc hx'.out _ j u hj) h1 hn (by simp only [maxLen]; omega) (by omega) (by simp) (w.heap.size + 1) (by simp) ?_; intro g1 cap1 w1 hown hgrow hat hlt)
  go_wp2
  go_ret
  rw [Nat.zero_add, List.nil_append] at hown
  have hB : Below w.heap.size w w1 := (Below.alloc (.refl _ _) (Nat.le_refl _) _).grown hgrow (by simp) (fun k hk => by cases hk; exact Nat.le_refl _)
  have hg : w.heap.size ≤ g1 := (hown.lt g1 rfl).1
  exact ⟨g1, cap1, rfl, hg, hown, hB⟩
end Go.Proofs.YtoacaikopcdkmaaGreat
