/- The vault: awake's walk. No condition. -/
import Derived.Test.YtoacaikopcdkmaaGreatZ30
import Derived.Lib.SlBytesConst
set_option linter.unusedSimpArgs false
set_option linter.unusedVariables false
namespace Go.Proofs.YtoacaikopcdkmaaGreat
set_option maxRecDepth 100000
set_option maxHeartbeats 800000
open Go.RowKit Go.Sort Go.MapKept Go.Maps Go.WideElems Go.ChangeMaps
theorem c_awake (w : World) : Calls Tryz.prog 10 #[] w fun e w' => e = .returned (.bool true) ∧ Below w.heap.size w w' := by
  obtain ⟨v, d1, v2, v3, v4, d2, u, d3, C, cur2, cur3, L, L9, e1, H1, b0, Hb, e2, H2, e3, H3, q1, q2, q3, q4, q5, q6, q7, e4, H4, p5, g5, e5, H5, h1, hc, e6, H6, e7, q8⟩ := awake_full
  have cN := Hid.mk (a_new w)
  have cO1 : Hid (∀ W dA, Hid (Ad w W dA (Vm.Drum.new 100)) → Calls Tryz.prog 11 #[.pointer (some ⟨dA, 0, none⟩), .int .i64 8] W fun e w' => ∃ a, e = .returned (.tuple #[.pointer (some ⟨a, 0, none⟩), .int .i64 0]) ∧ Hid (Aw w w' a dA v d1)) := Hid.mk fun W dA h =>
    a_open h.out (pl := ⟨25, 27, 9⟩) (by rw [show (Vm.Drum.new 100).now.length = 100 by unfold Vm.Drum.new; simp]; rfl) (fun e => absurd e (head_new 100 (by decide))) (by show 0 ≤ 100000; decide) e1
  have cB : Hid (∀ W a dA, Hid (Aw w W a dA v d1) → Calls Tryz.prog 20 #[.pointer (some ⟨a, 0, none⟩)] W fun e w' => e = .returned (.int .i64 0) ∧ Hid (Aw w w' a dA v.begin.2 d1)) := Hid.mk fun W a dA h => a_begin h.out b0
  have cA : Hid (∀ W a dA, Hid (Aw w W a dA v.begin.2 d1) → Calls Tryz.prog 19 #[.pointer (some ⟨a, 0, none⟩)] W fun e w' => e = .returned (.tuple #[.int .i64 1, .int .i64 0]) ∧ Hid (Aw w w' a dA v2 d1)) := Hid.mk fun W a dA h => a_alloc h.out Hb e2
  have cP : Hid (∀ W a dA, Hid (Aw w W a dA v2 d1) → ∀ o, o = Obj.cells #[.int .u8 97] 5 (1, 2) → Calls Tryz.prog 49 #[.pointer (some ⟨a, 0, none⟩), .int .i64 1, .slice (some ⟨W.heap.size, 0, none⟩) 1 1] (W.alloc o) fun e w' => e = .returned (.int .i64 0) ∧ Hid (Aw w w' a dA v3 d1)) := Hid.mk fun W a dA h o ho => by
    refine a_put (h.out.below (Below.alloc (.refl _ _) (Nat.le_refl _) _)) H2 _ (.inr ⟨W.heap.size, 0, 1, rfl, by rw [World.size_alloc]; exact Nat.lt_succ_self _, ?_⟩) e3
    intro j x hj
    rw [Nat.zero_add, ho]
    exact cell_at (heap_alloc_new W _) (by simpa [byC] using hj)
  have cM : Hid (∀ W a dA, Hid (Aw w W a dA v3 d1) → Calls Tryz.prog 21 #[.pointer (some ⟨a, 0, none⟩)] W fun e w' => e = .returned (.int .i64 0) ∧ Hid (Aw w w' a dA v4 d2)) := Hid.mk fun W a dA h => a_commit h.out H3 q1 q2 q3 q4 q5 (by rw [q6]; decide) q7 e4
  have cC : Hid (∀ W a dA, Hid (Aw w W a dA v4 d2) → Calls Tryz.prog 30 #[.pointer (some ⟨dA, 0, none⟩), .slice none 0 0] W fun e w' => e = .returned (.int .i64 0) ∧ Hid (Ad w w' dA (d2.crash2 []))) := Hid.mk fun W a dA h => a_crash h.out.drum
  have cO2 : Hid (∀ W dA, Hid (Ad w W dA (d2.crash2 [])) → Calls Tryz.prog 11 #[.pointer (some ⟨dA, 0, none⟩), .int .i64 8] W fun e w' => ∃ a, e = .returned (.tuple #[.pointer (some ⟨a, 0, none⟩), .int .i64 0]) ∧ Hid (Aw w w' a dA u d3)) := Hid.mk fun W dA h =>
    a_open h.out p5 (fun _ => g5) (by rw [(head_crash H4 []).2.2]; decide) e5
  have cG : Hid (∀ W a dA, Hid (Aw w W a dA u d3) → Calls Tryz.prog 46 #[.pointer (some ⟨a, 0, none⟩), .int .i64 1] W fun e w' => ∃ g cap, e = .returned (.tuple #[.slice (some ⟨g, 0, none⟩) 496 cap, .int .i64 0]) ∧ w'.cell? ⟨g, 0, none⟩ = some (.int .u8 97) ∧ Hid (Aw w w' a dA { u with L := L } L9)) := Hid.mk fun W a dA h => a_get h.out H5 h1 hc e6
  have cT : Hid (∀ W a dA, Hid (Aw w W a dA { u with L := L } L9) → Calls Tryz.prog 22 #[.pointer (some ⟨a, 0, none⟩)] W fun e w' => ∃ g cap, e = .returned (.slice (some ⟨g, 0, none⟩) 1 cap) ∧ Hid (w'.rangeAt g 0 [kV 1]) ∧ Hid (Aw w w' a dA { u with L := L } L9)) := Hid.mk fun W a dA h => a_taken h.out H6.one.2 e7
  have cS : Hid (∀ W a dA, Hid (Aw w W a dA { u with L := L } L9) → ∀ g cap, Hid (W.rangeAt g 0 [kV 1]) → ∀ o, o = Obj.cells #[.int .i64 1] 3 (0, 0) → Calls Tryz.prog 41 #[.slice (some ⟨g, 0, none⟩) 1 cap, .slice (some ⟨W.heap.size, 0, none⟩) 1 1] (W.alloc o) fun e w' => e = .returned (.bool true) ∧ Hid (Aw w w' a dA { u with L := L } L9)) := Hid.mk fun W a dA h g cap hr o ho => a_same h.out g cap hr.out o ho
  have cE : Hid (∀ W a dA, Hid (Aw w W a dA { u with L := L } L9) → Calls Tryz.prog 32 #[.pointer (some ⟨a, 0, none⟩)] W fun e w' => e = .returned (.int .i64 2) ∧ w' = W) := Hid.mk fun W a dA h => a_gen h.out q8
  have cR : Hid (∀ W a dA, Hid (Aw w W a dA { u with L := L } L9) → Below w.heap.size w W) := Hid.mk fun W a dA h => h.out.out
  clear e1 H1 b0 Hb e2 H2 e3 H3 q1 q2 q3 q4 q5 q6 q7 e4 H4 p5 g5 e5 H5 h1 hc e6 H6 e7 q8
  have hcv : ∀ W : World, (convert 22 22 (.slice (some ⟨W.heap.size, 0, none⟩) 1 1)).run Tryz.prog (W.alloc (.cells #[.int .u8 97] 5)) = .ok (.slice (some ⟨W.heap.size, 0, none⟩) 1 1) (W.alloc (.cells #[.int .u8 97] 5 (1, 2))) := fun W => Lib.run_convert_bytes_const W 22 5 #[.int .u8 97] 1 1 Tryz.underlying22 (by kernel_rfl)
  go_enter Tryz.func10, Tryz.ntmps10
  go_wp2_with (first | (go_at_call 12; refine cN.out.mono ?_; rintro e w1 ⟨dA, rfl, hD⟩) | (go_at_call 11; refine (cO2.out _ _ hC).mono ?_; rintro e w8 ⟨a2, rfl, hO2⟩) | (go_at_call 11; refine (cO1.out _ _ hD).mono ?_; rintro e w2 ⟨a1, rfl, hO⟩) | (go_at_call 20; refine (cB.out _ _ _ hO).mono ?_; rintro e w3 ⟨rfl, hB⟩) | (go_at_call 19; refine (cA.out _ _ _ hB).mono ?_; rintro e w4 ⟨rfl, hA⟩) | (go_at_call 49; refine (cP.out _ _ _ hA _ rfl).mono ?_; rintro e w5 ⟨rfl, hP⟩) | (go_at_call 21; refine (cM.out _ _ _ hP).mono ?_; rintro e w6 ⟨rfl, hM⟩) | (go_at_call 30; refine (cC.out _ _ _ hM).mono ?_; rintro e w7 ⟨rfl, hC⟩) | (go_at_call 46; refine (cG.out _ _ _ hO2).mono ?_; rintro e w9 ⟨pg, pc, rfl, hp0, hG⟩) | (go_at_call 22; refine (cT.out _ _ _ hG).mono ?_; rintro e w10 ⟨tg, tc, rfl, hT0, hT⟩) | (go_at_call 41; refine (cS.out _ _ _ hT _ _ hT0 _ rfl).mono ?_; rintro e w11 ⟨rfl, hS⟩) | (go_at_call 32; refine (cE.out _ _ _ hS).mono ?_; rintro e w12 ⟨rfl, rfl⟩))
  go_ret
  exact ⟨rfl, cR.out _ _ _ hS⟩
theorem c_nil (w : World) (n : Int) (sp : Option Addr) (p : List UInt8) (cap : Nat) (hp : p.length ≤ 1000000000)
    (hx : (sp = none ∧ p = []) ∨ ∃ a, sp = some a ∧ ∀ j u, (byC p)[j]? = some u → w.cell? (a.add j) = some u) :
    Calls Tryz.prog 6 #[.int .i64 n, .slice sp p.length cap] w fun e w' => e = .returned (.bool true) ∧ Below w.heap.size w w' := c_vaultNil c_awake w n sp p cap hp hx
end Go.Proofs.YtoacaikopcdkmaaGreat
