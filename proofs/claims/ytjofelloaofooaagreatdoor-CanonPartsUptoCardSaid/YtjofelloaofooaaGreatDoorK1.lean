/- The parts of sync.Once's slow road, each a contract of its own. No condition. -/
import Derived.Tactics
import Derived.Tactics2
import Derived.Defers
import Derived.Laws.Pointers
import Derived.Laws.LoneSync
import Derived.RegionTactic
import Derived.RegionCalls
import Derived.WalkKit
import Derived.Shelf.Strings.Builder1
import Derived.Laws.MakeOwn
import Derived.Laws.Tables
import Derived.Laws.CopyOwn
import Derived.Lib.SliceRun
import Derived.Laws.IdiomStrings
import Derived.Maps.AppendAt
import Derived.Lib.Bytealg
import Derived.WalkSpells
import Derived.Deep.QuietTactic
import Derived.BigQuiet
import Derived.Deep.RegionLaw
import Derived.KernelRfl
import Derived.Test.YtjofelloaofooaaGreatDoorEng0
set_option linter.unusedSimpArgs false
set_option linter.unusedVariables false
namespace Go.Proofs.YtjofelloaofooaaGreatDoor
open Go.Proofs.Tryz
open Go.RowKit
theorem KK (w : World) : (callFunc 249 #[]).run prog w = .ok (.value (.tuple #[])) w := run_call_mark0 func249 (by kernel_rfl) (by kernel_rfl) (by kernel_rfl) .disable (by kernel_rfl) w
theorem Mx (w : World) : (callFunc 251 #[]).run prog w = .ok (.value (.tuple #[])) w := run_call_mark0 func251 (by kernel_rfl) (by kernel_rfl) (by kernel_rfl) .enable (by kernel_rfl) w
theorem PD (a : Addr) (w : World) : (callFunc 252 #[.pointer (some a)]).run prog w = .ok (.value (.tuple #[])) w := run_call_marked func252 (by kernel_rfl) (by kernel_rfl) (by kernel_rfl) .acquire (by kernel_rfl) a w
theorem OJ (a : Addr) (w : World) : (callFunc 254 #[.pointer (some a)]).run prog w = .ok (.value (.tuple #[])) w := run_call_marked func254 (by kernel_rfl) (by kernel_rfl) (by kernel_rfl) .releaseMerge (by kernel_rfl) a w
set_option maxRecDepth 100000 in
theorem SG (a : Addr) (w : World) (hc : w.cell? a = some (.int .i32 0)) (hz : w.frozen? a = false) :
  Calls prog 236 #[.pointer (some a)] w fun e w' => e = .returned (.tuple #[]) /\ w' = w.setCell a (.int .i32 1) := by
 have hd := KK;have he := Mx;have ha := PD;have hcas := run_call_cas_hit (P := prog) func250 (by kernel_rfl) (by kernel_rfl) (by kernel_rfl) .i32 (by kernel_rfl) (y := 1) hc hz;have hc' : (w.setCell a (.int .i32 1)).cell? a = some (.int .i32 1) := World.cell?_setCell_same w a _ hc;have hcv := run_convert_to_unsafe (P := prog) (src := 298) (dst := 122) underlying298 underlying122 (by kernel_rfl) hc'
 go_enter func236, ntmps236
 go_wp2
 first | go_end0 | (simp only [Exit.inBlock, Exit.then]; refine bodyPost_ret (results_none rfl _ _ _) rfl ?_) | refine bodyPost_ret (results_none rfl _ _ _) rfl ?_
 all_goals (try go_wp2)
 all_goals (try go_end0)
 all_goals (first | exact ⟨rfl, rfl⟩ | trace_state)
set_option maxRecDepth 100000 in
theorem Ox (a : Addr) (w : World) (hc : w.cell? a = some (.int .i32 1)) (hz : w.frozen? a = false) :
  Calls prog 237 #[.pointer (some a)] w fun e w' => e = .returned (.tuple #[]) /\ w' = w.setCell a (.int .i32 0) := by
 have hd := KK;have he := Mx;have hr := OJ;have hadd := run_call_add (P := prog) func255 (by kernel_rfl) (by kernel_rfl) (by kernel_rfl) .i32 (by kernel_rfl) (y := -1) (s := 0) hc hz (by simp [go_sem]; rfl);have hcv := run_convert_to_unsafe (P := prog) (src := 298) (dst := 122) underlying298 underlying122 (by kernel_rfl) hc
 go_enter func237, ntmps237
 go_wp2
 go_end0
 all_goals (try go_wp2)
 all_goals (try go_end0)
 all_goals exact ⟨rfl, rfl⟩
theorem VH (a : Addr) (w : World) (hc : w.cell? a = some (.int .i32 0)) (hz : w.frozen? a = false) :
  Calls prog 218 #[.pointer (some a)] w fun e w' => e = .returned (.tuple #[]) /\ w' = w.setCell a (.int .i32 1) := by
 go_enter func218, ntmps218
 go_wp2_with (go_at_call 236; refine (SG a _ hc hz).mono ?_; rintro e w' ⟨rfl, rfl⟩)
 go_end0
 exact ⟨rfl, rfl⟩
theorem NZ (a : Addr) (u : FrameMode) (w : World) (hc : w.cell? a = some (.int .i32 1)) (hz : w.frozen? a = false) :
  CallsD prog 219 #[.pointer (some a)] u w fun e u' w' => u' = u /\ (e = .returned (.tuple #[]) /\ w' = w.setCell a (.int .i32 0)) := by
 go_enter_d func219, ntmps219
 go_wp2_with (go_at_call 237; refine (Ox a _ hc hz).mono ?_; rintro e w' ⟨rfl, rfl⟩)
 go_end0
 exact ⟨rfl, rfl⟩
theorem Pd (a : Addr) (x : Value) (u : FrameMode) (w : World) (hc : w.cell? a = some x) (hz : w.frozen? a = false) :
  CallsD prog 220 #[.pointer (some a), .bool true] u w fun e u' w' => u' = u /\ (e = .returned (.tuple #[]) /\ w' = w.drew.setCell a (.int .u32 1)) := by
 have hc' : w.drew.cell? a = some x := by go_simp
 have hz' : w.drew.frozen? a = false := by go_simp
 have hst := run_call_store (P := prog) func238 (by kernel_rfl) (by kernel_rfl) (by kernel_rfl) (by kernel_rfl) (k := .u32) (y := 1) hc' hz'
 go_enter_d func220, ntmps220
 go_wp2
 go_region_calls
 all_goals (go_end0; exact ⟨rfl, rfl⟩)

set_option linter.unusedSimpArgs false
set_option linter.unusedVariables false
open Go.RowKit
theorem RU (a : Addr) (w : World) (hc : w.cell? a = some (.int .u32 0)) : Calls prog 188 #[.pointer (some a)] w fun e w' => e = .returned (.bool false) /\ w' = w := by
 have hl := run_call_load (P := prog) func217 (by kernel_rfl) (by kernel_rfl) (by kernel_rfl) .u32 (by kernel_rfl) hc
 go_enter func188, ntmps188
 go_wp2
 go_ret
 exact ⟨rfl, rfl⟩
set_option maxRecDepth 100000 in
set_option maxHeartbeats 1600000 in
theorem Um (b : Nat) (pl : Addr) (w : World) (Q : World -> Prop) (h0 : w.cell? ⟨b, 0, none⟩ = some (.int .u32 0)) (h1 : w.cell? ⟨b, 1, none⟩ = some (.int .i32 0)) (f0 : w.frozen? ⟨b, 0, none⟩ = false) (f1 : w.frozen? ⟨b, 1, none⟩ = false)
  (hf : Calls prog 135 #[.pointer (some pl)] (w.setCell ⟨b, 1, none⟩ (.int .i32 1)) fun e w' => e = .returned (.tuple #[]) /\ w'.cell? ⟨b, 0, none⟩ = some (.int .u32 0) /\ w'.cell? ⟨b, 1, none⟩ = some (.int .i32 1) /\ w'.frozen? ⟨b, 0, none⟩ = false /\ w'.frozen? ⟨b, 1, none⟩ = false /\ Q w') :
  Calls prog 189 #[.pointer (some ⟨b, 0, none⟩), .func (.func 135) #[.pointer (some pl)] #[]] w fun e w' => e = .returned (.tuple #[]) /\ ∃ w2, Q w2 /\ w' = (w2.drew.setCell ⟨b, 0, none⟩ (.int .u32 1)).setCell ⟨b, 1, none⟩ (.int .i32 0) := by
 have h01 : (w.setCell ⟨b, 1, none⟩ (.int .i32 1)).cell? ⟨b, 0, none⟩ = some (.int .u32 0) := (World.cell?_setCell_other _ ⟨b, 1, none⟩ ⟨b, 0, none⟩ _ (by simp)).trans h0
 go_enter_defers func189, ntmps189
 go_wp2_with (first
  | (go_at_call 218; refine (VH ⟨b, 1, none⟩ _ h1 f1).mono ?_; rintro e w' ⟨rfl, rfl⟩)
  | (go_at_call 188; refine (RU ⟨b, 0, none⟩ _ h01).mono ?_; rintro e w' ⟨rfl, rfl⟩)
  | (go_at_call 135; refine hf.mono ?_; rintro e w2 ⟨rfl, c0, c1, z0, z1, hQ⟩))
 refine leaves_cons (f := 220) (args := #[.pointer (some ⟨b, 0, none⟩), .bool true]) (by simp) (by simp [go_sem]) ?_;refine (Pd ⟨b, 0, none⟩ (.int .u32 0) .returning _ c0 z0).mono ?_;rintro e u' w'' ⟨rfl, rfl, rfl⟩;refine leaves_cons (f := 219) (args := #[.pointer (some ⟨b, 1, none⟩)]) (by simp [settle]) (by simp [go_sem]) ?_;refine (NZ ⟨b, 1, none⟩ _ _ ?_ (by simp [z1])).mono ?_
 ·refine (World.cell?_setCell_other _ ⟨b, 0, none⟩ ⟨b, 1, none⟩ _ (by simp)).trans ?_;rw [World.cell?_drew];exact c1
 rintro e u' w'' ⟨rfl, rfl, rfl⟩;simp [Leaves, settle, results, Tryz.results189];exact ⟨_, hQ, rfl⟩

set_option linter.unusedSimpArgs false
set_option linter.unusedVariables false
open Go.RowKit
set_option maxRecDepth 100000 in
theorem Zy (b : Nat) (pl : Addr) (w : World) (Q : World -> Prop) (h0 : w.cell? ⟨b, 0, none⟩ = some (.int .u32 0)) (h1 : w.cell? ⟨b, 1, none⟩ = some (.int .i32 0)) (f0 : w.frozen? ⟨b, 0, none⟩ = false) (f1 : w.frozen? ⟨b, 1, none⟩ = false)
  (hf : Calls prog 135 #[.pointer (some pl)] (w.setCell ⟨b, 1, none⟩ (.int .i32 1)) fun e w' => e = .returned (.tuple #[]) /\ w'.cell? ⟨b, 0, none⟩ = some (.int .u32 0) /\ w'.cell? ⟨b, 1, none⟩ = some (.int .i32 1) /\ w'.frozen? ⟨b, 0, none⟩ = false /\ w'.frozen? ⟨b, 1, none⟩ = false /\ Q w') :
  Calls prog 134 #[.pointer (some ⟨b, 0, none⟩), .func (.func 135) #[.pointer (some pl)] #[]] w fun e w' => e = .returned (.tuple #[]) /\ ∃ w2, Q w2 /\ w' = (w2.drew.setCell ⟨b, 0, none⟩ (.int .u32 1)).setCell ⟨b, 1, none⟩ (.int .i32 0) := by
 go_enter func134, ntmps134
 go_wp2_with (first
  | (go_at_call 188; refine (RU ⟨b, 0, none⟩ _ h0).mono ?_; rintro e w' ⟨rfl, rfl⟩)
  | (go_at_call 189; refine (Um b pl _ Q h0 h1 f0 f1 hf).mono ?_; rintro e w2 ⟨rfl, hQ⟩))
 go_end0
 exact ⟨rfl, hQ⟩
set_option maxRecDepth 100000 in
theorem LP (b d : Nat) (x3 x4 : Value) (w : World) (Q : World -> Prop)
  (hb : Calls prog 190 #[.pointer (some ⟨b, 0, none⟩)] w fun e w' => e = .returned (.iface 268 (.pointer (some ⟨d, 0, none⟩))) /\ w'.cell? ⟨b, 3, none⟩ = some x3 /\ w'.cell? ⟨b, 4, none⟩ = some x4 /\ w'.frozen? ⟨b, 3, none⟩ = false /\ w'.frozen? ⟨b, 4, none⟩ = false /\ Q w') :
  Calls prog 135 #[.pointer (some ⟨b, 0, none⟩)] w fun e w' => e = .returned (.tuple #[]) /\ ∃ w2, Q w2 /\ w' = (w2.setCell ⟨b, 3, none⟩ (.iface 268 (.pointer (some ⟨d, 0, none⟩)))).setCell ⟨b, 4, none⟩ (.slice none 0 0) := by
 go_enter func135, ntmps135
 go_wp2_with (go_at_call 190; refine hb.mono ?_; rintro e w2 ⟨rfl, c3, c4, z3, z4, hQ⟩)
 have c4' : (w2.setCell ⟨b, 3, none⟩ (.iface 268 (.pointer (some ⟨d, 0, none⟩)))).cell? ⟨b, 4, none⟩ = some x4 := (World.cell?_setCell_other _ ⟨b, 3, none⟩ ⟨b, 4, none⟩ _ (by simp)).trans c4
 go_wp2
 go_end0
 exact ⟨rfl, _, hQ, rfl⟩

set_option linter.unusedSimpArgs false
set_option linter.unusedVariables false
open Go.RowKit Go.Shelf
theorem Vt (a : Addr) (w : World) : (method 444 268 (.pointer (some a)) "Replace").run prog w = .ok (303, .pointer (some a)) w := by kernel_rfl
set_option maxRecDepth 100000 in
theorem Og (b d : Nat) (s r : ByteArray) (w : World) (Q : World -> Prop)
  (hdo : Calls prog 134 #[.pointer (some ⟨b, 0, none⟩), .func (.func 135) #[.pointer (some ⟨b, 0, none⟩)] #[]] w fun e w' => e = .returned (.tuple #[]) /\ w'.cell? ⟨b, 3, none⟩ = some (.iface 268 (.pointer (some ⟨d, 0, none⟩))) /\
   Calls prog 303 #[.pointer (some ⟨d, 0, none⟩), .string s] w' fun e w'' => e = .returned (.string r) /\ Q w'') :
  Calls prog 92 #[.pointer (some ⟨b, 0, none⟩), .string s] w fun e w' => e = .returned (.string r) /\ Q w' := by
 have e303 : ∀ args w, (callFunc 303 args).run prog w = .ok (.enter 303 args) w := enters_of func303 (by kernel_rfl) rfl
 go_enter func92, ntmps92
 go_wp2_with (go_at_call 134; refine hdo.mono ?_; rintro e w2 ⟨rfl, c3, hR⟩)
 rw [Vt];simp only [Result.andThen, e303]
 go_wp2_with (go_at_call 303; refine hR.mono ?_; rintro e w3 ⟨rfl, hQ⟩)
 go_ret
 exact ⟨rfl, hQ⟩

set_option linter.unusedSimpArgs false
set_option linter.unusedVariables false
open Go.RowKit Go.Shelf
theorem ZX : ∀ {xs : List Value} (h : xs.length = 8), xs.toArray = #[xs[0], xs[1], xs[2], xs[3], xs[4], xs[5], xs[6], xs[7]]
 | [_, _, _, _, _, _, _, _], _ => rfl
theorem WG : ∀ {xs : List Value} (h : xs.length = 12), xs.toArray = #[xs[0], xs[1], xs[2], xs[3], xs[4], xs[5], xs[6], xs[7], xs[8], xs[9], xs[10], xs[11]]
 | [_, _, _, _, _, _, _, _, _, _, _, _], _ => rfl
set_option maxRecDepth 100000 in
set_option maxHeartbeats 1600000 in
theorem VG (bk : Nat) (xs : List Value) (hx : xs.length = 8) (h1 : ∀ u ∈ xs, u.oneCell' = true) (w : World) (hc : ∀ j u, xs[j]? = some u -> w.cell? ⟨bk, j, none⟩ = some u) :
  Calls prog 91 #[.slice (some ⟨bk, 0, none⟩) 8 8] w fun e w' => ∃ c zs, e = .returned (.pointer (some ⟨w.heap.size + 1, 0, none⟩)) /\
   w'.heap = (w.heap.push (.cells (xs.toArray ++ zs) 9 (0, 0))).push (.cells #[.int .u32 0, .int .i32 0, .int .u32 0, .nilIface, .slice (some ⟨w.heap.size, 0, none⟩) 8 c] 170 (0, 0)) /\ w'.os = w.os /\ w'.output = w.output /\ w'.tape = w.tape := by
 go_enter func91, ntmps91
 go_wp2
 all_goals (try (go_ret; exact ⟨_, _, rfl, by rw [ZX hx]; rfl, rfl, rfl, rfl⟩))
set_option maxRecDepth 100000 in
set_option maxHeartbeats 1600000 in
theorem Tm (bk : Nat) (xs : List Value) (hx : xs.length = 12) (h1 : ∀ u ∈ xs, u.oneCell' = true) (w : World) (hc : ∀ j u, xs[j]? = some u -> w.cell? ⟨bk, j, none⟩ = some u) :
  Calls prog 91 #[.slice (some ⟨bk, 0, none⟩) 12 12] w fun e w' => ∃ c zs, e = .returned (.pointer (some ⟨w.heap.size + 1, 0, none⟩)) /\
   w'.heap = (w.heap.push (.cells (xs.toArray ++ zs) 9 (0, 0))).push (.cells #[.int .u32 0, .int .i32 0, .int .u32 0, .nilIface, .slice (some ⟨w.heap.size, 0, none⟩) 12 c] 170 (0, 0)) /\ w'.os = w.os /\ w'.output = w.output /\ w'.tape = w.tape := by
 go_enter func91, ntmps91
 go_wp2
 all_goals (try (go_ret; exact ⟨_, _, rfl, by rw [WG hx]; rfl, rfl, rfl, rfl⟩))

set_option linter.unusedSimpArgs false
set_option linter.unusedVariables false
open Go.RowKit Go.Shelf
theorem al2 (w : World) (o1 o2 : Obj) : ((w.alloc o1).alloc o2).heap[w.heap.size + 1]? = some o2 := by
 show ((w.heap.push o1).push o2)[w.heap.size + 1]? = some o2;have e : w.heap.size + 1 = (w.heap.push o1).size := by simp
 rw [e]; exact Array.getElem?_push_size
theorem SI (u : Value) (hu : u.oneCell' = true) : ∀ v ∈ Tryz.zeroCells267.toList.set 256 u, v.oneCell' = true := fun v hv => by
 rcases List.mem_or_eq_of_mem_set hv with h | h
 ·have ha : (Tryz.zeroCells267.toList.all fun v => v.oneCell') = true := by kernel_rfl
  exact List.all_eq_true.1 ha v h
 ·rw [h]; exact hu
structure Und (w W : World) (L : List (By8 × List By8)) (i : Nat) : Prop where
 below : Below w.heap.size w W
 size : w.heap.size + 2 <= W.heap.size
 row : ∃ cur, W.heap[w.heap.size]? = some (.cells cur 9 (0, 0)) /\ cur.size = L.length /\ ∀ j (h : j < i) (h' : L.length - 1 - j < L.length), cur[j]? = some (.string ⟨#[L[L.length - 1 - j].1]⟩)
 obj : ∃ C, W.heap[w.heap.size + 1]? = some (.cells C 267 (0, 0)) /\ C.size = 257 /\ C[256]? = some (.slice (some ⟨w.heap.size, 0, none⟩) i L.length) /\
  (∀ c, c < 256 -> (∀ p ∈ L.drop (L.length - i), p.1.toNat ≠ c) -> C[c]? = some (.slice none 0 0)) /\
  ∀ p ∈ L.drop (L.length - i), ∃ g cap, w.heap.size + 2 <= g /\ C[p.1.toNat]? = some (.slice (some ⟨g, 0, none⟩) p.2.length cap) /\ ∀ j v, p.2[j]? = some v -> W.cell? ⟨g, j, none⟩ = some (.int .u8 (v.toNat : Int))
theorem Rk : Tryz.zeroCells267 = (List.replicate 257 (.slice none 0 0)).toArray := by kernel_rfl
theorem SQ (c : Nat) (hc : c < 256) : Tryz.zeroCells267[c]? = some (.slice none 0 0) := by
 rw [Rk, List.getElem?_toArray, List.getElem?_replicate, if_pos (by omega)]
theorem SX : Tryz.zeroCells267.size = 257 := by rw [Rk, List.size_toArray, List.length_replicate]
theorem Z1 (w : World) (N : Nat) (L : List (By8 × List By8)) (hN : N = L.length) :
  Und w (((w.alloc (.cells (madeCells #[.string .empty] N) 9)).alloc (.cells Tryz.zeroCells267 267)).setRow (w.heap.size + 1) (Tryz.zeroCells267.toList.take 0 ++ Tryz.zeroCells267.toList.set 256 (.slice (some ⟨w.heap.size, 0, none⟩) 0 N)).toArray) L 0 := by
 have hz := SX;have s1 : ∀ (u : World) (o : Obj), (u.alloc o).heap.size = u.heap.size + 1 := fun u o => Array.size_push _
 refine ⟨below_setRow (((Below.refl _ w).alloc (Nat.le_refl _) _).alloc (by rw [s1]; omega) _) (by omega) _, by rw [setRow_size, s1, s1]; omega, ⟨madeCells #[.string .empty] N, (setRow_other _ _ _ _ (by omega)).trans ?_, by rw [size_madeCells]; exact hN, fun j h => by omega⟩,
  ⟨_, setRow_heap _ _ _ _ _ _ (al2 _ _ _), ?_, ?_, ?_, ?_⟩⟩
 ·show ((w.heap.push _).push _)[w.heap.size]? = _;rw [Array.getElem?_push, if_neg (by rw [Array.size_push]; omega), Array.getElem?_push_size]
 ·rw [List.size_toArray, List.take_zero, List.nil_append, List.length_set, Array.length_toList, hz]
 ·rw [List.getElem?_toArray, List.take_zero, List.nil_append, List.getElem?_set_self (by rw [Array.length_toList, hz]; omega), hN]
 ·intro c hc _;rw [List.getElem?_toArray, List.take_zero, List.nil_append, List.getElem?_set_ne (by omega), Array.getElem?_toList];exact SQ c hc
 ·intro p hp;rw [Nat.sub_zero, List.drop_length] at hp;cases hp
theorem Ec {w : World} {g i : Nat} {cur : Array Value} {t : TypeId} {fr : Nat × Nat} (v : Value) (h : w.heap[g]? = some (.cells cur t fr)) : (w.setCell ⟨g, i, none⟩ v).heap[g]? = some (.cells (cur.setIfInBounds i v) t fr) := by
 rw [setCell_eq_setRow w g i cur t fr v h]; exact setRow_heap w g cur _ t fr h
theorem QW {w wr : World} {L : List (By8 × List By8)} {i k N : Nat} {o : By8} {r : List By8} (hU : Und w wr L i) (hN : N = L.length) (hk : k < L.length) (hL : L[k] = (o, r)) (hki : k + 1 + i = N) (hnd : (L.map (·.1)).Nodup)
  (X Y : Obj) (cap gb : Nat) (fr : Nat × Nat) (hgb : gb = wr.heap.size + 2) :
  Und w ((((((wr.alloc X).alloc Y).setCell ⟨w.heap.size, i, none⟩ (.string ⟨#[o]⟩)).setCell ⟨w.heap.size + 1, 256, none⟩ (.slice (some ⟨w.heap.size, 0, none⟩) (i + 1) N)).drew.alloc (.cells (bytesRow ⟨r.toArray⟩ cap) 5 fr)).setCell ⟨w.heap.size + 1, o.toNat, none⟩ (.slice (some ⟨gb, 0, none⟩) r.length cap)) L (i + 1) := by
 obtain ⟨cur, hr1, hr2, hr3⟩ := hU.row;obtain ⟨C, hC1, hC2, hC3, hC4, hC5⟩ := hU.obj;have hsz := hU.size;have s1 : ∀ (u : World) (o : Obj), (u.alloc o).heap.size = u.heap.size + 1 := fun u o => Array.size_push _;have s2 : ∀ (u : World) (x : Addr) (v : Value), (u.setCell x v).heap.size = u.heap.size := fun u x v => by simp [World.setCell]
 have sd : ∀ u : World, u.drew.heap = u.heap := fun u => rfl;have lo := o.toNat_lt;have a1 : (((wr.alloc X).alloc Y).setCell ⟨w.heap.size, i, none⟩ (.string ⟨#[o]⟩)).heap[w.heap.size]? = some (.cells (cur.setIfInBounds i (.string ⟨#[o]⟩)) 9 (0, 0)) :=
  Ec _ (by rw [Below.heap_alloc _ _ _ (by rw [s1]; omega), Below.heap_alloc _ _ _ (by omega)]; exact hr1)
 have c1 : (((wr.alloc X).alloc Y).setCell ⟨w.heap.size, i, none⟩ (.string ⟨#[o]⟩)).heap[w.heap.size + 1]? = some (.cells C 267 (0, 0)) := by
  rw [Below.heap_setCell _ _ _ _ (by simp), Below.heap_alloc _ _ _ (by rw [s1]; omega), Below.heap_alloc _ _ _ (by omega)]; exact hC1
 have o1 : ∀ g, g < wr.heap.size -> g ≠ w.heap.size -> (((wr.alloc X).alloc Y).setCell ⟨w.heap.size, i, none⟩ (.string ⟨#[o]⟩)).heap[g]? = wr.heap[g]? := fun g h1 h2 => by
  rw [Below.heap_setCell _ _ _ _ h2, Below.heap_alloc _ _ _ (by rw [s1]; omega), Below.heap_alloc _ _ _ (by omega)]
 have b1 : Below w.heap.size w (((wr.alloc X).alloc Y).setCell ⟨w.heap.size, i, none⟩ (.string ⟨#[o]⟩)) := ((hU.below.alloc (by omega) _).alloc (by rw [s1]; omega) _).setCell (Nat.le_refl _) _;have z1 : (((wr.alloc X).alloc Y).setCell ⟨w.heap.size, i, none⟩ (.string ⟨#[o]⟩)).heap.size = gb := by rw [s2, s1, s1, hgb]
 generalize ((wr.alloc X).alloc Y).setCell ⟨w.heap.size, i, none⟩ (.string ⟨#[o]⟩) = U at a1 c1 o1 b1 z1 ⊢;have c2 : (U.setCell ⟨w.heap.size + 1, 256, none⟩ (.slice (some ⟨w.heap.size, 0, none⟩) (i + 1) N)).drew.heap[w.heap.size + 1]? = some (.cells (C.setIfInBounds 256 (.slice (some ⟨w.heap.size, 0, none⟩) (i + 1) N)) 267 (0, 0)) := Ec _ c1;have a2 : (U.setCell ⟨w.heap.size + 1, 256, none⟩ (.slice (some ⟨w.heap.size, 0, none⟩) (i + 1) N)).drew.heap[w.heap.size]? = some (.cells (cur.setIfInBounds i (.string ⟨#[o]⟩)) 9 (0, 0)) := (Below.heap_setCell _ _ _ _ (by simp)).trans a1;have o2 : ∀ g, g < wr.heap.size -> w.heap.size + 2 <= g -> (U.setCell ⟨w.heap.size + 1, 256, none⟩ (.slice (some ⟨w.heap.size, 0, none⟩) (i + 1) N)).drew.heap[g]? = wr.heap[g]? := fun g h1 h2 => (Below.heap_setCell _ _ _ _ (by show g ≠ w.heap.size + 1; omega)).trans (o1 g h1 (by omega));have b2 : Below w.heap.size w (U.setCell ⟨w.heap.size + 1, 256, none⟩ (.slice (some ⟨w.heap.size, 0, none⟩) (i + 1) N)).drew := (b1.setCell (Nat.le_succ _) _).drew;have z2 : (U.setCell ⟨w.heap.size + 1, 256, none⟩ (.slice (some ⟨w.heap.size, 0, none⟩) (i + 1) N)).drew.heap.size = gb := by rw [sd, s2, z1]
 generalize (U.setCell ⟨w.heap.size + 1, 256, none⟩ (.slice (some ⟨w.heap.size, 0, none⟩) (i + 1) N)).drew = V at a2 c2 o2 b2 z2 ⊢;have hV : (V.alloc (.cells (bytesRow ⟨r.toArray⟩ cap) 5 fr)).heap[w.heap.size + 1]? = some (.cells (C.setIfInBounds 256 (.slice (some ⟨w.heap.size, 0, none⟩) (i + 1) N)) 267 (0, 0)) := by
  rw [Below.heap_alloc _ _ _ (by omega)]; exact c2
 have hdk : L.drop (L.length - (i + 1)) = (o, r) :: L.drop (L.length - i) := by
  rw [show L.length - (i + 1) = k by omega, show L.length - i = k + 1 by omega, List.drop_eq_getElem_cons hk, hL]
 refine ⟨(b2.alloc (by omega) _).setCell (Nat.le_succ _) _, by rw [s2, s1]; omega, ⟨_, (Below.heap_setCell _ _ _ _ (by simp)).trans ((Below.heap_alloc _ _ _ (by omega)).trans a2), by rw [Array.size_setIfInBounds, hr2], fun j h h' => ?_⟩,
  ⟨_, Ec _ hV, by simp [hC2], ?_, fun c hc hne => ?_, fun p hp => ?_⟩⟩
 ·by_cases hj : j = i
  ·subst hj;rw [Array.getElem?_setIfInBounds_self_of_lt (by omega)];have : L.length - 1 - j = k := by omega
   simp only [this, hL]
  ·rw [Array.getElem?_setIfInBounds_ne (by omega)];exact hr3 j (by omega) h'
 ·rw [Array.getElem?_setIfInBounds_ne (by omega), Array.getElem?_setIfInBounds_self_of_lt (by omega), hN]
 ·rw [hdk] at hne;rw [Array.getElem?_setIfInBounds_ne (hne _ List.mem_cons_self), Array.getElem?_setIfInBounds_ne (by omega)];exact hC4 c hc fun p hp => hne p (List.mem_cons_of_mem _ hp)
 ·rw [hdk] at hp;rcases List.mem_cons.1 hp with rfl | hp
  ·refine ⟨gb, cap, by omega, Array.getElem?_setIfInBounds_self_of_lt (by simp; omega), fun j v hv => ?_⟩;have hj : j < r.length := (List.getElem?_eq_some_iff.1 hv).1;have e := World.cell?_alloc_mark V (bytesRow ⟨r.toArray⟩ cap) 5 fr j;rw [z2] at e;rw [World.cell?_setCell_other _ _ _ _ (by simp only [ne_eq, Addr.mk.injEq]; omega), e, bytesRow_at _ _ _ (by simpa using hj)];have : r[j] = v := by rw [List.getElem?_eq_getElem hj] at hv; injection hv
   simp [this]
  ·obtain ⟨g, cp, h1, h2, h3⟩ := hC5 p hp;have hpo : o.toNat ≠ p.1.toNat := fun e => by
    have hnd' := hnd;have e1 : L = L.take (k + 1) ++ L.drop (k + 1) := (List.take_append_drop _ _).symm;rw [e1, List.map_append, List.nodup_append] at hnd';rw [show L.length - i = k + 1 by omega] at hp;exact hnd'.2.2 _ (List.mem_map.2 ⟨L[k], by rw [List.take_succ_eq_append_getElem hk]; exact List.mem_append_right _ List.mem_cons_self, rfl⟩) _ (List.mem_map.2 ⟨p, hp, rfl⟩) (by rw [hL]; exact UInt8.toNat_inj.1 e)
   have hp256 := p.1.toNat_lt;refine ⟨g, cp, h1, ?_, fun j v hv => ?_⟩
   ·rw [Array.getElem?_setIfInBounds_ne hpo, Array.getElem?_setIfInBounds_ne (by omega)]; exact h2
   ·have hc := h3 j v hv;have hg : g < wr.heap.size := World.block_lt_of_cell? _ _ hc;rw [<- hc];exact World.cell?_of_block ((Below.heap_setCell _ _ _ _ (by show g ≠ w.heap.size + 1; omega)).trans ((Below.heap_alloc _ _ _ (by show g < V.heap.size; omega)).trans (o2 g hg h1)))
set_option maxRecDepth 100000 in
set_option maxHeartbeats 1600000 in
theorem TI (b A c n N : Nat) (L : List (By8 × List By8)) (w : World) (hN : Hid (N = L.length /\ n = 2 * N /\ 2 <= N /\ N <= 50)) (hr : ∀ p ∈ L, 2 <= p.2.length /\ p.2.length <= 100) (hnd : Hid ((L.map (·.1)).Nodup))
  (h4 : w.cell? ⟨b, 4, none⟩ = some (.slice (some ⟨A, 0, none⟩) n c))
  (hA : ∀ i (h : i < L.length) m, m = 2 * i -> w.cell? ⟨A, m, none⟩ = some (.string ⟨#[L[i].1]⟩) /\ w.cell? ⟨A, m + 1, none⟩ = some (.string ⟨L[i].2.toArray⟩)) :
  Calls prog 190 #[.pointer (some ⟨b, 0, none⟩)] w fun e w' => e = .returned (.iface 268 (.pointer (some ⟨w.heap.size + 1, 0, none⟩))) /\ Und w w' L L.length := by
 have hne : ¬ ((n : Int) = 2) := by have := hN.out; omega
 have hA' : Hid (∀ i (h : i < L.length) m, m = 2 * i -> w.cell? ⟨A, m, none⟩ = some (.string ⟨#[L[i].1]⟩) /\ w.cell? ⟨A, m + 1, none⟩ = some (.string ⟨L[i].2.toArray⟩)) := hA;have hr' : Hid (∀ p ∈ L, 2 <= p.2.length /\ p.2.length <= 100) := hr;clear hA hr
 go_enter func190, ntmps190
 go_wp2
 go_loop [4, 5] (fun t i => ∃ k m : Nat, k <= N /\ Hid (m = 2 * k) /\ i = .int .i64 (m : Int) /\ t = .bool (decide (k = 0))) (fun _ i => 200 - (intOf i).toNat)
 case atStart => exact ⟨0, 0, Nat.zero_le _, rfl, rfl, rfl⟩
 case round =>
  obtain ⟨k, m, hk, hm, rfl, rfl⟩ := hrel;by_cases hlt : k < N
  ·have g : ∃ (o : By8) (r : List By8), w.cell? ⟨A, m, none⟩ = some (.string ⟨#[o]⟩) /\ w.cell? ⟨A, m + 1, none⟩ = some (.string ⟨r.toArray⟩) /\ ¬ ((r.length : Int) = 1) /\ (m : Int) < n /\ (m : Int) + 1 < n /\ m < n /\ m + 1 < n /\ n < 1000 := by
    have h1 := hN.out;have h2 := hm.out;obtain ⟨a1, a2⟩ := hA'.out k (by omega) m h2;have h3 := hr'.out _ (bn (l := L) (n := k) (by omega));exact ⟨_, _, a1, a2, by omega, by omega, by omega, by omega, by omega, by omega⟩
   obtain ⟨o, r, a1, a2, g1, g2, g3, g4, g5, g6⟩ := g
   go_wp2
   go_round
   case rel =>
    have h1 := hN.out;have h2 := hm.out;exact ⟨k + 1, m + 2, by omega, (show m + 2 = 2 * (k + 1) by omega), by go_num, by simp⟩
   case measure => have h1 := hN.out; have h2 := hm.out; simp [intOf]; omega
  ·have g1 : ¬ ((m : Int) < n) := by have h1 := hN.out; have h2 := hm.out; omega
   have gk : decide (k = 0) = false := bg (by have h1 := hN.out; omega);rw [gk]
   go_wp2
   have hw : wrap64 ((n : Int) / 2) = (N : Int) := by have h1 := hN.out; unfold wrap64; omega
   have hI : (prog.info? 9).map (fun i => (i.zero, i.size, i.bytes)) = some (some (.string .empty), 1, 16) := by kernel_rfl
   obtain ⟨i0, hi, hz0, hz1, hz2⟩ := info_parts hI;have hN3 : N <= 50 := hN.out.2.2.2;rw [hw, run_makeSlice (P := prog) w 36 9 i0 (.string .empty) underlying36 hi hz0 .i64 .i64 0 (N : Int) (by decide) (by omega) (by rw [hz1]; omega) (by rw [hz2]; omega) (by omega)];simp only [Result.andThen];rw [Oper.upon_value]
   go_wp2
   have hu := Z1 w N L hN.out.1;rw [run_storeCells_from (P := prog) (w.heap.size + 1) 267 (Tryz.zeroCells267.toList.set 256 (.slice (some ⟨w.heap.size, 0, none⟩) 0 N)) 0 Tryz.zeroCells267 _ (al2 _ _ _) (by rw [List.length_set]; rfl) (SI _ rfl)];simp only [Result.andThen];generalize (((w.alloc (.cells (madeCells #[.string .empty] N) 9)).alloc (.cells Tryz.zeroCells267 267)).setRow (w.heap.size + 1) (Tryz.zeroCells267.toList.take 0 ++ Tryz.zeroCells267.toList.set 256 (.slice (some ⟨w.heap.size, 0, none⟩) 0 N)).toArray) = W at hu ⊢
   go_wp2
   go_loopw [12] (fun t wr => ∃ k i : Nat, Hid (k + i = N) /\ t = .int .i64 (2 * (k : Int) - 2) /\ Und w wr L i) (fun t _ => (intOf t + 2).toNat)
   case atStart => exact ⟨N, 0, rfl, by have h1 := hN.out; congr 1; unfold wrap64; omega, hu⟩
   case round =>
    obtain ⟨k, i, hki, rfl, hU⟩ := hrel
    cases k with
    | zero =>
     go_wp2
     go_ret
     have h1 := hN.out.1;have h2 := hki.out;exact ⟨rfl, by rw [show L.length = i by omega]; exact hU⟩
    | succ k =>
     obtain ⟨m, hm⟩ : ∃ m, Hid (m = 2 * k) := ⟨_, rfl⟩
     obtain ⟨C, hC1, hC2, hC3, hC4, hC5⟩ := hU.obj;have g : ∃ (o : By8) (r : List By8), Hid (∃ h : k < L.length, L[k] = (o, r)) /\ wr.cell? ⟨A, m, none⟩ = some (.string ⟨#[o]⟩) /\ wr.cell? ⟨A, m + 1, none⟩ = some (.string ⟨r.toArray⟩) /\ (m : Int) < n /\ (m : Int) + 1 < n /\ m < n /\ m + 1 < n /\ n < 1000 /\ C[o.toNat]? = some (.slice none 0 0) /\ r.length <= 100 /\ o.toNat < 256 /\ o.toNat ≠ 256 := by
      have h1 := hN.out;have h2 := hm.out;have h3 := hki.out;have hkl : k < L.length := by omega
      obtain ⟨a1, a2⟩ := hA'.out k hkl m h2;have h4 := hr'.out _ (bn hkl);have lo : L[k].1.toNat < 256 := L[k].1.toNat_lt;refine ⟨L[k].1, L[k].2, ⟨hkl, rfl⟩, (hU.below.cell (World.block_lt_of_cell? _ _ a1)).trans a1, (hU.below.cell (World.block_lt_of_cell? _ _ a2)).trans a2, by omega, by omega, by omega, by omega, by omega, hC4 _ lo fun p hp e => ?_, by omega, lo, by omega⟩;have hk1 : L.length - i = k + 1 := by omega
      rw [hk1] at hp;have hnd' := hnd.out;have e1 : L = L.take (k + 1) ++ L.drop (k + 1) := (List.take_append_drop _ _).symm;rw [e1, List.map_append, List.nodup_append] at hnd';have e2 : p.1 = L[k].1 := UInt8.toNat_inj.1 e;exact hnd'.2.2 _ (List.mem_map.2 ⟨L[k], by rw [List.take_succ_eq_append_getElem hkl]; exact List.mem_append_right _ List.mem_cons_self, rfl⟩) _ (List.mem_map.2 ⟨p, hp, rfl⟩) e2.symm
     obtain ⟨o, r, hL, a1, a2, g1, g2, g3, g4, g5, g6, g7, g8, g9⟩ := g;have hC3' : C[256]? = some (.slice (some ⟨w.heap.size, 0, none⟩) i N) := by rw [hN.out.1]; exact hC3
     have cell : ∀ j v, C[j]? = some v -> wr.cell? ⟨w.heap.size + 1, j, none⟩ = some v := fun j v h => by unfold World.cell?; simp only [hC1]; exact h
     have b1 := cell _ _ g6;have b2 := cell _ _ hC3';have z : ∀ j, wr.frozen? ⟨w.heap.size + 1, j, none⟩ = false := fun j => by unfold World.frozen?; simp only [hC1]; simp
     have z1 := z o.toNat;have z2 := z 256;have em : 2 * ((k + 1 : Nat) : Int) - 2 = (m : Int) := by have := hm.out; omega
     rw [em];have hx0 : ∀ h, (⟨#[o]⟩ : ByteArray)[0]'h = o := fun _ => rfl;have hsz := hU.size;have old : ∀ (u : World) (X : Obj) (x : Addr), x.block < u.heap.size -> (u.alloc X).cell? x = u.cell? x /\ (u.alloc X).frozen? x = u.frozen? x := fun u X x h =>
      ⟨World.cell?_of_block (Below.heap_alloc u X _ h), World.frozen?_of_block (Below.heap_alloc u X _ h)⟩
     have s1 : ∀ (u : World) (o : Obj), (u.alloc o).heap.size = u.heap.size + 1 := fun u o => Array.size_push _;have s2 : ∀ (u : World) (x : Addr) (v : Value), (u.setCell x v).heap.size = u.heap.size := fun u x v => by simp [World.setCell]
     have sd : ∀ u : World, u.drew.heap.size = u.heap.size := fun u => rfl;obtain ⟨cur, hr1, hr2, hr3⟩ := hU.row;have hil : i < L.length := by have h1 := hN.out; have h3 := hki.out; omega
     obtain ⟨v3, hv3⟩ : ∃ v3, wr.cell? ⟨w.heap.size, i, none⟩ = some v3 := ⟨cur[i], by unfold World.cell?; simp only [hr1]; exact Array.getElem?_eq_getElem (by omega)⟩
     have z3 : wr.frozen? ⟨w.heap.size, i, none⟩ = false := by unfold World.frozen?; simp only [hr1]; simp
     have F1 : ∀ X Y, ((wr.alloc X).alloc Y).cell? ⟨w.heap.size, i, none⟩ = some v3 := fun X Y => by rw [(old _ _ _ (by rw [s1]; show w.heap.size < _; omega)).1, (old _ _ _ (by show w.heap.size < _; omega)).1, hv3]
     have F2 : ∀ X Y, ((wr.alloc X).alloc Y).frozen? ⟨w.heap.size, i, none⟩ = false := fun X Y => by rw [(old _ _ _ (by rw [s1]; show w.heap.size < _; omega)).2, (old _ _ _ (by show w.heap.size < _; omega)).2, z3]
     have F3 : ∀ X Y v, (((wr.alloc X).alloc Y).setCell ⟨w.heap.size, i, none⟩ v).cell? ⟨w.heap.size + 1, 256, none⟩ = some (.slice (some ⟨w.heap.size, 0, none⟩) i N) := fun X Y v => by
      rw [World.cell?_setCell_other _ _ _ _ (by simp), (old _ _ _ (by rw [s1]; show w.heap.size + 1 < _; omega)).1, (old _ _ _ (by show w.heap.size + 1 < _; omega)).1, b2]
     have F4 : ∀ X Y v, (((wr.alloc X).alloc Y).setCell ⟨w.heap.size, i, none⟩ v).frozen? ⟨w.heap.size + 1, 256, none⟩ = false := fun X Y v => by
      rw [World.frozen?_setCell, (old _ _ _ (by rw [s1]; show w.heap.size + 1 < _; omega)).2, (old _ _ _ (by show w.heap.size + 1 < _; omega)).2, z2]
     have F5 : ∀ X Y v s Z, (((((wr.alloc X).alloc Y).setCell ⟨w.heap.size, i, none⟩ v).setCell ⟨w.heap.size + 1, 256, none⟩ s).drew.alloc Z).cell? ⟨w.heap.size + 1, o.toNat, none⟩ = some (.slice none 0 0) := fun X Y v s Z => by
      rw [(old _ _ _ (by rw [sd, s2, s2, s1, s1]; show w.heap.size + 1 < _; omega)).1, World.cell?_drew, World.cell?_setCell_other _ _ _ _ (by simp only [ne_eq, Addr.mk.injEq]; omega), World.cell?_setCell_other _ _ _ _ (by simp), (old _ _ _ (by rw [s1]; show w.heap.size + 1 < _; omega)).1, (old _ _ _ (by show w.heap.size + 1 < _; omega)).1, b1]
     have F6 : ∀ X Y v s Z, (((((wr.alloc X).alloc Y).setCell ⟨w.heap.size, i, none⟩ v).setCell ⟨w.heap.size + 1, 256, none⟩ s).drew.alloc Z).frozen? ⟨w.heap.size + 1, o.toNat, none⟩ = false := fun X Y v s Z => by
      rw [(old _ _ _ (by rw [sd, s2, s2, s1, s1]; show w.heap.size + 1 < _; omega)).2, World.frozen?_drew, World.frozen?_setCell, World.frozen?_setCell, (old _ _ _ (by rw [s1]; show w.heap.size + 1 < _; omega)).2, (old _ _ _ (by show w.heap.size + 1 < _; omega)).2, z1]
     have hiN : i + 1 <= N := by have h3 := hki.out; omega
     clear old s1 s2 sd hr1 hr2 hr3 hil hv3 z3 hsz;clear cell z em hC3 hC4 hC5;clear hC1 hC2 hC3' g6;have q1 : ∀ a l c W, (binOp .eql 30 (.slice a l c) (.slice none 0 0)).run prog W = .ok (.bool a.isNone) W := fun a l c W => Lib.run_eql_slice_nil W 30 _ a l c 0 0 underlying30
     go_wp2
     have k1 := run_convert_bytes_back (P := prog) (wr.alloc (.cells #[.int .u8 (o.toNat : Int)] 5)) 30 9 5 ⟨wr.heap.size, 0, none⟩ 1 [o] underlying30 underlying5 underlying9 (fun j hj => cell_one_new wr _ _ j _ (by
      obtain rfl : j = 0 := by simpa using hj
      rfl))
     rw [show ([o] : List By8).length = 1 from rfl] at k1;rw [k1];simp only [Result.andThen];rw [Oper.upon_value]
     go_wp2
     obtain ⟨V, hV⟩ : ∃ V, Hid (V = (((wr.alloc (.cells #[.int .u8 (o.toNat : Int)] 5)).alloc (.cells #[.string ⟨#[o]⟩] 9)).setCell ⟨w.heap.size, i, none⟩ (.string ⟨#[o]⟩)).setCell ⟨w.heap.size + 1, 256, none⟩ (.slice (some ⟨w.heap.size, 0, none⟩) (i + 1) N)) := ⟨_, rfl⟩
     have F5' : ∀ Z, (V.drew.alloc Z).cell? ⟨w.heap.size + 1, o.toNat, none⟩ = some (.slice none 0 0) := fun Z => by rw [hV.out]; exact F5 _ _ _ _ Z
     have F6' : ∀ Z, (V.drew.alloc Z).frozen? ⟨w.heap.size + 1, o.toNat, none⟩ = false := fun Z => by rw [hV.out]; exact F6 _ _ _ _ Z
     have hVs : V.heap.size = wr.heap.size + 2 := by
      rw [hV.out];simp only [World.setCell, Array.size_modify];show ((wr.heap.push _).push _).size = _;rw [Array.size_push, Array.size_push]
     have hstep : Hid (∀ (cap gb : Nat) (fr : Nat × Nat), gb = wr.heap.size + 2 -> Und w ((V.drew.alloc (.cells (bytesRow ⟨r.toArray⟩ cap) 5 fr)).setCell ⟨w.heap.size + 1, o.toNat, none⟩ (.slice (some ⟨gb, 0, none⟩) r.length cap)) L (i + 1)) := fun cap gb fr hgb => by
      rw [hV.out];exact QW hU hN.out.1 hL.out.1 hL.out.2 hki.out hnd.out _ _ cap gb fr hgb
     have hV' := hV.out;rw [<- hV', run_bytes_of_string (P := prog) V 9 30 5 ⟨r.toArray⟩ underlying9 underlying30 underlying5];clear F1 F2 F3 F4 F5 F6 hV hV';generalize hcap : grownCap V (ByteArray.size ⟨r.toArray⟩) 0 5 = cap;clear hcap;obtain ⟨W5, hW5⟩ : ∃ W5, Hid (W5 = V.drew.alloc (.cells (bytesRow ⟨r.toArray⟩ cap) 5 ((bytesRow ⟨r.toArray⟩ cap).size, (bytesRow ⟨r.toArray⟩ cap).size + 1))) := ⟨_, rfl⟩
     have b5 : W5.cell? ⟨w.heap.size + 1, o.toNat, none⟩ = some (.slice none 0 0) := by rw [hW5.out]; exact F5' _
     have z5 : W5.frozen? ⟨w.heap.size + 1, o.toNat, none⟩ = false := by rw [hW5.out]; exact F6' _
     have hfin : Hid (Und w (W5.setCell ⟨w.heap.size + 1, o.toNat, none⟩ (.slice (some ⟨wr.heap.size + 2, 0, none⟩) r.length cap)) L (i + 1)) := by rw [hW5.out]; exact hstep.out _ _ _ rfl
     have hW5' := hW5.out;rw [<- hW5', hVs];clear hW5 hW5' F5' F6' hstep hVs;simp only [Result.andThen];rw [Oper.upon_value]
     go_wp2
     go_roundw
     case rel => exact ⟨k, i + 1, (show k + (i + 1) = N by have := hki.out; omega), by congr 1; have := hm.out; omega, hfin.out⟩
     case measure => have := hm.out; simp [intOf]; omega

set_option linter.unusedSimpArgs false
set_option linter.unusedVariables false
open Go.RowKit Go.Shelf
theorem IR (x : Int) (h1 : -9223372036854775808 <= x) (h2 : x <= 9223372036854775807) : wrap64 x = x := by unfold wrap64; omega
theorem TV (z q : Nat) (h : z + q <= 1000000000000000) : wrap64 ((z : Int) + wrap64 (q : Int)) = ((z + q : Nat) : Int) := by
 rw [IR (q : Int) (by omega) (by omega), IR _ (by omega) (by omega)]; omega
theorem Rc (z q : Nat) (h : z + q <= 1000000000000) : wrap64 ((z : Int) + (q : Int)) = ((z + q : Nat) : Int) := by
 rw [IR _ (by omega) (by omega)]; omega
def D5 : List (By8 × List By8) -> By8 -> List By8
 | [], c => [c]
 | p :: l, c => if p.1 = c then p.2 else D5 l c
theorem JB : ∀ {L : List (By8 × List By8)} {c : By8}, (∀ p ∈ L, p.1 ≠ c) -> D5 L c = [c]
 | [], c, _ => rfl
 | p :: l, c, h => by rw [D5, if_neg (h p List.mem_cons_self), JB fun q hq => h q (List.mem_cons_of_mem _ hq)]
theorem O5 : ∀ {L : List (By8 × List By8)} {p : By8 × List By8}, (L.map (·.1)).Nodup -> p ∈ L -> D5 L p.1 = p.2
 | q :: l, p, hn, h => by
  rw [List.map_cons, List.nodup_cons] at hn;rcases List.mem_cons.1 h with rfl | h
  ·rw [D5, if_pos rfl]
  ·rw [D5, if_neg fun e => hn.1 (List.mem_map.2 ⟨p, h, e.symm⟩), O5 hn.2 h]
theorem HC {L : List (By8 × List By8)} (hn : (L.map (·.1)).Nodup) (c : By8) : (∃ p ∈ L, p.1 = c /\ D5 L c = p.2) \/ ((∀ p ∈ L, p.1 ≠ c) /\ D5 L c = [c]) := by
 by_cases h : ∃ p ∈ L, p.1 = c
 ·obtain ⟨p, hp, rfl⟩ := h;exact .inl ⟨p, hp, rfl, O5 hn hp⟩
 ·have h' : ∀ p ∈ L, p.1 ≠ c := fun p hp e => h ⟨p, hp, e⟩;exact .inr ⟨h', JB h'⟩
def grw (T : List By8) (L : List (By8 × List By8)) : Nat := (L.map fun p => Lib.countByte T p.1 * (p.2.length - 1)).sum
theorem Sj (L : List (By8 × List By8)) : grw [] L = 0 := by
 unfold grw
 induction L with
 | nil => rfl
 | cons p l ih => rw [List.map_cons, List.sum_cons, ih]; simp [Lib.countByte]
theorem Mu (c : By8) (T : List By8) : ∀ (L : List (By8 × List By8)), (L.map (·.1)).Nodup -> (∀ p ∈ L, 1 <= p.2.length) -> grw (c :: T) L + 1 = grw T L + (D5 L c).length
 | [], _, _ => by simp [grw, D5]
 | p :: l, hn, h1 => by
  rw [List.map_cons, List.nodup_cons] at hn;have ih := Mu c T l hn.2 fun q hq => h1 q (List.mem_cons_of_mem _ hq);have hp := h1 p List.mem_cons_self;have e : ∀ U, grw U (p :: l) = Lib.countByte U p.1 * (p.2.length - 1) + grw U l := fun U => by unfold grw; rw [List.map_cons, List.sum_cons]
  rw [e, e];by_cases hc : p.1 = c
  ·have hno : D5 l c = [c] := JB fun q hq e => hn.1 (List.mem_map.2 ⟨q, hq, e.trans hc.symm⟩);have e2 : Lib.countByte (c :: T) p.1 = Lib.countByte T p.1 + 1 := by unfold Lib.countByte; rw [List.count_cons, if_pos (by simp [hc])]
   rw [D5, if_pos hc, e2, Nat.add_mul, Nat.one_mul];rw [hno, List.length_singleton] at ih;omega
  ·have e2 : Lib.countByte (c :: T) p.1 = Lib.countByte T p.1 := by unfold Lib.countByte; rw [List.count_cons, if_neg (by simpa using fun h => hc h.symm), Nat.add_zero]
   rw [D5, if_neg hc, e2];omega
theorem LO {L : List (By8 × List By8)} (hn : (L.map (·.1)).Nodup) (h1 : ∀ p ∈ L, 1 <= p.2.length) : ∀ T : List By8, (T.flatMap (D5 L)).length = T.length + grw T L
 | [] => by rw [Sj]; rfl
 | c :: T => by
  have := Mu c T L hn h1;have ih := LO hn h1 T;rw [List.flatMap_cons, bm, bi, ih];omega
theorem PY (T : List By8) (L : List (By8 × List By8)) : grw T L.reverse = grw T L := by unfold grw; rw [List.map_reverse, List.sum_reverse]
theorem Qz (T : List By8) {R : List (By8 × List By8)} {j : Nat} (h : j < R.length) : grw T (R.take (j + 1)) = grw T (R.take j) + Lib.countByte T R[j].1 * (R[j].2.length - 1) := by
 unfold grw; rw [List.take_succ_eq_append_getElem h, List.map_append, List.sum_append]; simp
theorem JL {L : List (By8 × List By8)} : ∀ {T : List By8}, (∀ p ∈ L, Lib.countByte T p.1 = 0) -> T.flatMap (D5 L) = T
 | [], _ => rfl
 | c :: T, h => by
  have h1 : ∀ p ∈ L, p.1 ≠ c := fun p hp e => by
   have := h p hp;unfold Lib.countByte at this;rw [List.count_cons, if_pos (by simp [e])] at this;omega
  have h2 : ∀ p ∈ L, Lib.countByte T p.1 = 0 := fun p hp => by
   have := h p hp;unfold Lib.countByte at this ⊢;rw [List.count_cons] at this;omega
  rw [List.flatMap_cons, JB h1, JL h2]; rfl
theorem Hc {L : List (By8 × List By8)} (hn : (L.map (·.1)).Nodup) (h1 : ∀ p ∈ L, 1 <= p.2.length /\ p.2.length <= 100) : ∀ T : List By8, T.length <= (T.flatMap (D5 L)).length /\ (T.flatMap (D5 L)).length <= 100 * T.length
 | [] => by simp
 | c :: T => by
  have ih := Hc hn h1 T;rw [List.flatMap_cons, bm, bi];rcases HC hn c with ⟨p, hp, _, e⟩ | ⟨_, e⟩
  ·have := h1 p hp;rw [e]; omega
  ·rw [e]; simp only [List.length_singleton]; omega
theorem JE {L : List (By8 × List By8)} {T : List By8} {k : Nat} (h : k < T.length) : (T.take (k + 1)).flatMap (D5 L) = (T.take k).flatMap (D5 L) ++ D5 L T[k] := by
 rw [List.take_succ_eq_append_getElem h, List.flatMap_append]; simp
theorem Re {L : List (By8 × List By8)} (T : List By8) {k : Nat} (h : k < T.length) : ((T.take k).flatMap (D5 L)).length + (D5 L T[k]).length <= (T.flatMap (D5 L)).length := by
 have e := congrArg (fun l => (l.flatMap (D5 L)).length) (List.take_append_drop (k + 1) T);simp only [List.flatMap_append, bm] at e;rw [JE h, bm] at e;omega
structure Tab (w : World) (d : Nat) (L : List (By8 × List By8)) : Prop where
 keys : ∃ k cap, w.cell? ⟨d, 256, none⟩ = some (.slice (some ⟨k, 0, none⟩) L.length cap) /\ ∀ j (h : j < L.reverse.length), w.cell? ⟨k, j, none⟩ = some (.string ⟨#[L.reverse[j].1]⟩)
 nil : ∀ c : By8, (∀ p ∈ L, p.1 ≠ c) -> w.cell? ⟨d, c.toNat, none⟩ = some (.slice none 0 0)
 rep : ∀ p ∈ L, ∃ g cap, w.cell? ⟨d, p.1.toNat, none⟩ = some (.slice (some ⟨g, 0, none⟩) p.2.length cap) /\ ∀ j v, p.2[j]? = some v -> w.cell? ⟨g, j, none⟩ = some (.int .u8 (v.toNat : Int))
theorem Tab.keep {w w' : World} {d : Nat} {L : List (By8 × List By8)} (h : Tab w d L) (hb : Below w.heap.size w w') : Tab w' d L := by
 have c : ∀ {a : Addr} {v : Value}, w.cell? a = some v -> w'.cell? a = some v := fun {a v} hc => (hb.cell (World.block_lt_of_cell? _ _ hc)).trans hc;obtain ⟨k, cap, h1, h2⟩ := h.keys;refine ⟨⟨k, cap, c h1, fun j hj => c (h2 j hj)⟩, fun x hx => c (h.nil x hx), fun p hp => ?_⟩;obtain ⟨g, cp, h3, h4⟩ := h.rep p hp;exact ⟨g, cp, c h3, fun j v hv => c (h4 j v hv)⟩
theorem Tab.same {w w' : World} {d : Nat} {L : List (By8 × List By8)} (h : Tab w d L) (hb : ∀ a, w'.cell? a = w.cell? a) : Tab w' d L := by
 obtain ⟨k, cap, h1, h2⟩ := h.keys;refine ⟨⟨k, cap, (hb _).trans h1, fun j hj => (hb _).trans (h2 j hj)⟩, fun x hx => (hb _).trans (h.nil x hx), fun p hp => ?_⟩;obtain ⟨g, cp, h3, h4⟩ := h.rep p hp;exact ⟨g, cp, (hb _).trans h3, fun j v hv => (hb _).trans (h4 j v hv)⟩
theorem Und.tab {w W : World} {L : List (By8 × List By8)} (h : Und w W L L.length) : Tab W (w.heap.size + 1) L := by
 obtain ⟨cur, hr1, hr2, hr3⟩ := h.row;obtain ⟨C, hC1, hC2, hC3, hC4, hC5⟩ := h.obj;rw [Nat.sub_self, List.drop_zero] at hC4 hC5;have cell : ∀ j v, C[j]? = some v -> W.cell? ⟨w.heap.size + 1, j, none⟩ = some v := fun j v h => by unfold World.cell?; simp only [hC1]; exact h
 refine ⟨⟨_, _, cell _ _ hC3, fun j hj => ?_⟩, fun c hc => cell _ _ (hC4 _ c.toNat_lt fun p hp e => hc p hp (UInt8.toNat_inj.1 e)), fun p hp => ?_⟩
 ·have hj' : j < L.length := by simpa using hj
  have := hr3 j hj' (by omega);unfold World.cell?;simp only [hr1];rw [List.getElem_reverse];exact this
 ·obtain ⟨g, cap, _, h1, h2⟩ := hC5 p hp;exact ⟨g, cap, cell _ _ h1, h2⟩
def byC (l : List By8) : List Value := l.map fun b => .int .u8 (b.toNat : Int)
theorem Th (l : List By8) : (byC l).length = l.length := List.length_map _
theorem Sm (l : List By8) : ∀ v ∈ byC l, v.oneCell' = true := fun v hv => by
 obtain ⟨b, _, rfl⟩ := List.mem_map.1 hv; rfl
theorem US {l : List By8} {j : Nat} {v : Value} (h : (byC l)[j]? = some v) : ∃ b, l[j]? = some b /\ v = .int .u8 (b.toNat : Int) := by
 unfold byC at h;rw [List.getElem?_map] at h;obtain ⟨b, h1, h2⟩ := Option.map_eq_some_iff.1 h;exact ⟨b, h1, h2.symm⟩
theorem O2 (a b : List By8) : byC (a ++ b) = byC a ++ byC b := List.map_append
theorem L2 {cur : List Value} {j : Nat} {a cs : List Value} (h : cur.take j = a) (hj : j + cs.length <= cur.length) : (splice cur j cs).take (j + cs.length) = a ++ cs := by
 unfold splice;rw [h, <- List.append_assoc];have : (a ++ cs).length = j + cs.length := by rw [<- h, bm, List.length_take]; omega
 rw [<- this, List.take_left'];rfl
theorem Q2 {cur : List Value} {j : Nat} {a : List Value} {v : Value} (h : cur.take j = a) (hj : j < cur.length) : (cur.set j v).take (j + 1) = a ++ [v] := by
 rw [List.take_succ_eq_append_getElem (by simpa using hj), List.getElem_set_self];congr 1;rw [List.take_set_of_le (Nat.le_refl j)];exact h
theorem Yz (g i : Nat) : (⟨g, 0, none⟩ : Addr).add i = ⟨g, i, none⟩ := by unfold Addr.add; split <;> simp_all

set_option linter.unusedSimpArgs false
set_option linter.unusedVariables false
open Go.RowKit Go.Shelf
set_option maxHeartbeats 1000000 in
set_option maxRecDepth 100000 in
theorem SJ (s : ByteArray) (c : By8) (w : World) : Calls prog 305 #[.string s, .string ⟨#[c]⟩] w fun e w' => e = .returned (.int .i64 (Lib.countByte s.data.toList c)) /\ w' = w := by
 go_enter func305, ntmps305
 go_wp2
 rw [run_callFunc_extern func306 (by kernel_rfl) (by kernel_rfl) (by kernel_rfl) (e := Extern.BytealgCount.count) (by kernel_rfl), Lib.run_countString];simp only [Result.andThen];rw [Oper.upon_value]
 go_wp2
 go_ret
 exact ⟨rfl, rfl⟩
set_option maxRecDepth 100000 in
set_option maxHeartbeats 1600000 in
theorem S9 (d n : Nat) (L : List (By8 × List By8)) (s : ByteArray) (w : World) (hT : Hid (Tab w d L)) (hn : Hid ((L.map (·.1)).Nodup)) (hr : Hid (∀ p ∈ L, 2 <= p.2.length /\ p.2.length <= 100)) (hN : Hid (n = L.length)) (hn2 : n <= 50) (hs : s.size <= 4294967296) :
  Calls prog 303 #[.pointer (some ⟨d, 0, none⟩), .string s] w fun e w' => e = .returned (.string ⟨(s.data.toList.flatMap (D5 L)).toArray⟩) /\ Below w.heap.size w w' := by
 obtain ⟨k0, cap0, c0, c1⟩ := hT.out.keys;have c0' : w.cell? ⟨d, 256, none⟩ = some (.slice (some ⟨k0, 0, none⟩) n cap0) := by rw [hN.out]; exact c0
 have c1' : Hid (∀ j (h : j < L.reverse.length), w.cell? ⟨k0, j, none⟩ = some (.string ⟨#[L.reverse[j].1]⟩)) := c1;clear c0 c1;have q2 : ∀ a l c W, (binOp .neq 30 (.slice a l c) (.slice none 0 0)).run prog W = .ok (.bool (!a.isNone)) W := fun a l c W => run_neq_slice_nil_any W 30 _ a l c 0 0 underlying30;by_cases h8 : (n : Int) * 8 <= s.size
 case' pos =>
  go_enter func303, ntmps303
  go_wp2
  go_loopw [5, 6, 32] (fun t f i wr => ∃ (j z : Nat) (bv : Bool), j <= n /\ i = .int .i64 (j : Int) /\ Hid (z = s.size + grw s.data.toList (L.reverse.take j)) /\ t = .int .i64 (z : Int) /\
   Hid (bv = (L.reverse.take j).any fun p => Lib.countByte s.data.toList p.1 != 0) /\ f = .bool bv /\ Hid (wr.heap = w.heap) /\ Hid (Below w.heap.size w wr)) (fun _ _ i _ => n - (intOf i).toNat)
  case atStart => exact ⟨0, s.size, false, Nat.zero_le _, rfl, (show _ = _ by simp [grw]), rfl, rfl, rfl, rfl, Below.refl _ _⟩
  case' round =>
   obtain ⟨j, z, bv, hj, rfl, hz, rfl, hbv, rfl, hh, hB⟩ := hrel;by_cases hlt : j < n
   case pos =>
    have hC : ∀ a, wr.cell? a = w.cell? a := fun a => World.cell?_of_block (by rw [hh.out]);have g : ∃ (o : By8) (l g1 cp1 m : Nat), Hid (∃ h : j < L.reverse.length, L.reverse[j].1 = o /\ L.reverse[j].2.length = l) /\ wr.cell? ⟨k0, j, none⟩ = some (.string ⟨#[o]⟩) /\ wr.cell? ⟨d, o.toNat, none⟩ = some (.slice (some ⟨g1, 0, none⟩) l cp1) /\ o.toNat < 256 /\ 2 <= l /\ l <= 100 /\ Hid (Lib.countByte s.data.toList o = m) /\ m <= 4294967296 := by
     have hjr : j < L.reverse.length := by rw [List.length_reverse, <- hN.out]; exact hlt
     have hp : L.reverse[j] ∈ L := List.mem_reverse.1 (bn hjr);obtain ⟨g1, cp1, h1, _⟩ := hT.out.rep _ hp;have h2 := hr.out _ hp;refine ⟨_, _, g1, cp1, _, ⟨hjr, rfl, rfl⟩, (hC _).trans (c1'.out j hjr), (hC _).trans h1, UInt8.toNat_lt _, h2.1, h2.2, rfl, ?_⟩;have : Lib.countByte s.data.toList L.reverse[j].1 <= s.data.toList.length := List.count_le_length;have e : s.data.toList.length = s.size := by simp
     omega
    obtain ⟨o, l, g1, cp1, m, hL, a1, a2, a3, a4, a5, hm, a6⟩ := g;have cC : Calls prog 305 #[.string s, .string ⟨#[o]⟩] wr fun e w' => e = .returned (.int .i64 (m : Int)) /\ w' = wr := by rw [<- hm.out]; exact SJ s o wr
    have hx0 : ∀ h, (⟨#[o]⟩ : ByteArray)[0]'h = o := fun _ => rfl;have hzn : Hid (∃ hjr : j < L.reverse.length, s.size + grw s.data.toList (L.reverse.take (j + 1)) = z + m * (l - 1) /\ ((L.reverse.take (j + 1)).any fun p => Lib.countByte s.data.toList p.1 != 0) = (bv || (m != 0)) /\ z + m * (l - 1) <= 1000000000000000) := by
     obtain ⟨hjr, e1, e2⟩ := hL.out;have e3 := Qz s.data.toList hjr;rw [e1, e2, hm.out] at e3;have eR : Hid (z + m * (l - 1) <= 1000000000000000) := by
      have r1 : ∀ p ∈ L, 1 <= p.2.length := fun p hp => by have := hr.out p hp; omega
      have b1 := LO hn.out r1 s.data.toList;have b2 := (Hc hn.out (fun p hp => by have := hr.out p hp; omega) s.data.toList).2;rw [<- PY] at b1;have b3 : grw s.data.toList (L.reverse.take (j + 1)) <= grw s.data.toList L.reverse := by
       have e := congrArg (grw s.data.toList) (List.take_append_drop (j + 1) L.reverse);unfold grw at e ⊢;rw [List.map_append, List.sum_append] at e;omega
      have e : s.data.toList.length = s.size := by simp
      have hz' := hz.out;show z + m * (l - 1) <= 1000000000000000;omega
     refine ⟨hjr, by rw [e3, hz.out]; omega, ?_, eR.out⟩;rw [List.take_succ_eq_append_getElem hjr, List.any_append, <- hbv.out];simp only [List.any_cons, List.any_nil, Bool.or_false, e1, hm.out]
    clear hC;by_cases hm0 : (m : Int) = 0
    ·go_wp2_with (go_at_call 305; refine cC.mono ?_; rintro e w' ⟨rfl, rfl⟩)
     go_roundw
     case rel =>
      obtain ⟨hjr, e1, e2, e3⟩ := hzn.out;have m0 : m = 0 := by omega
      rw [m0] at e1 e2;exact ⟨j + 1, z, bv, by omega, by go_num, (show z = _ by rw [e1]; omega), rfl, (show bv = _ by rw [e2]; simp), rfl, hh, hB⟩
     case measure => simp [intOf]; omega
    ·go_wp2_with (go_at_call 305; refine cC.mono ?_; rintro e w' ⟨rfl, rfl⟩)
     go_quiet (fail)
     go_wp2
     go_roundw
     case rel =>
      obtain ⟨hjr, e1, e2, e3⟩ := hzn.out;refine ⟨j + 1, z + m * (l - 1), true, by omega, by go_num, (show _ = _ by rw [e1]), ?_, (show true = _ by rw [e2]; simp; omega), rfl, ?_, ?_⟩
      ·congr 1;have e4 : ((m : Int) * ((l : Int) - 1)) = ((m * (l - 1) : Nat) : Int) := by rw [Int.natCast_mul, Int.natCast_sub (by omega)]; rfl
       rw [e4];exact TV _ _ e3
      ·exact hh
      ·exact (show Below _ _ _ from ⟨hB.out.os, hB.out.tape, hB.out.output, hB.out.size, hB.out.block⟩)
     case measure => simp [intOf]; omega
   case' neg =>
    have hfin : Hid (z = (s.data.toList.flatMap (D5 L)).length /\ (bv = false -> s.data.toList.flatMap (D5 L) = s.data.toList)) := by
     have hz' := hz.out;have hb' := hbv.out;have hl : L.reverse.length <= j := by rw [List.length_reverse, <- hN.out]; omega
     rw [List.take_of_length_le hl] at hz' hb';refine ⟨by rw [LO hn.out (fun p hp => by have := hr.out p hp; omega), hz', PY]; simp, fun h => JL fun p hp => ?_⟩;rw [h] at hb';have := List.any_eq_false.1 hb'.symm p (List.mem_reverse.2 hp);simpa using this
    cases bv
    case false =>
     have e : Hid (s.data.toList.flatMap (D5 L) = s.data.toList) := hfin.out.2 rfl;clear hfin
     go_wp2
     go_ret
     refine ⟨?_, hB.out⟩;rw [e.out];rfl
    case' true => go_wp2
 case' neg =>
  go_enter func303, ntmps303
  go_wp2
  go_loopw [5, 6, 10] (fun t f i wr => ∃ (k z : Nat) (bv : Bool), k <= s.size /\ i = .int .i64 (k : Int) /\ Hid (z + k = s.size + ((s.data.toList.take k).flatMap (D5 L)).length) /\ t = .int .i64 (z : Int) /\
   Hid (bv = (s.data.toList.take k).any fun c => L.any fun p => p.1 == c) /\ f = .bool bv /\ Hid (wr.heap = w.heap) /\ Hid (Below w.heap.size w wr)) (fun _ _ i _ => s.size - (intOf i).toNat)
  case atStart => exact ⟨0, s.size, false, Nat.zero_le _, rfl, (show _ = _ by simp), rfl, rfl, rfl, rfl, Below.refl _ _⟩
  case' round =>
   obtain ⟨k, z, bv, hj, rfl, hz, rfl, hbv, rfl, hh, hB⟩ := hrel;by_cases hlt : k < s.size
   case pos =>
    have hC : ∀ a, wr.cell? a = w.cell? a := fun a => World.cell?_of_block (by rw [hh.out]);have hT' : Tab wr d L := hT.out.same hC;obtain ⟨c, hck⟩ : ∃ c, s[k] = c := ⟨_, rfl⟩
    have hkT : k < s.data.toList.length := by simpa using hlt
    have hcT : Hid (s.data.toList[k] = c) := by rw [<- hck]; rfl
    have hc256 : c.toNat < 256 := c.toNat_lt;have hz1 : Hid (s.size + ((s.data.toList.take (k + 1)).flatMap (D5 L)).length = z + k + (D5 L c).length) := by
     show _ = _;rw [JE hkT, bm, hcT.out];have := hz.out;omega
    have hb1 : Hid (((s.data.toList.take (k + 1)).any fun c => L.any fun p => p.1 == c) = (bv || (L.any fun p => p.1 == c))) := by
     show _ = _;rw [List.take_succ_eq_append_getElem hkT, List.any_append, <- hbv.out, hcT.out];simp
    have hzb : z <= 1000000000000 := by
     have b2 := (Hc hn.out (fun p hp => by have := hr.out p hp; omega) (s.data.toList.take k)).2;have : (s.data.toList.take k).length <= k := List.length_take_le _ _;have := hz.out;omega
    clear hC;rcases HC hn.out c with ⟨p, hp, hpc, he⟩ | ⟨hno, he⟩
    ·obtain ⟨g1, cp1, h1, _⟩ := hT'.rep p hp;have h2 := hr.out p hp;obtain ⟨l, hl⟩ : ∃ l, Hid (p.2.length = l) := ⟨_, rfl⟩
     have a4 : 2 <= l := by have := hl.out; omega
     have a5 : l <= 100 := by have := hl.out; omega
     rw [hpc, hl.out] at h1;have hany : Hid ((L.any fun p => p.1 == c) = true) := List.any_eq_true.2 ⟨p, hp, by simp [hpc]⟩;have he' : Hid ((D5 L c).length = l) := by rw [he]; exact hl.out
     clear hT' hp hpc he h2 hcT hkT
     go_wp2
     go_roundw
     case rel =>
      have e1 := hz1.out;have e2 := he'.out;refine ⟨k + 1, z + l - 1, true, by omega, by go_num, (show _ = _ by omega), ?_, (show true = _ by rw [hb1.out, hany.out]; simp), rfl, hh, hB⟩;congr 1;omega
     case measure => simp [intOf]; omega
    ·have h1 := hT'.nil c hno;have hany : Hid ((L.any fun p => p.1 == c) = false) := List.any_eq_false.2 fun p hp => by simpa using hno p hp
     have he' : Hid ((D5 L c).length = 1) := by rw [he]; rfl
     clear hT' hno he hcT hkT
     go_wp2
     go_roundw
     case rel =>
      have e1 := hz1.out;have e2 := he'.out;exact ⟨k + 1, z, bv, by omega, by go_num, (show _ = _ by omega), rfl, (show bv = _ by rw [hb1.out, hany.out]; simp), rfl, hh, hB⟩
     case measure => simp [intOf]; omega
   case' neg =>
    have hfin : Hid (z = (s.data.toList.flatMap (D5 L)).length /\ (bv = false -> s.data.toList.flatMap (D5 L) = s.data.toList)) := by
     have hz' := hz.out;have hb' := hbv.out;have hl : s.data.toList.length <= k := by simp; omega
     rw [List.take_of_length_le hl] at hz' hb';refine ⟨by omega, fun h => JL fun p hp => ?_⟩;rw [h] at hb';refine List.count_eq_zero.2 fun hc => ?_;have := List.any_eq_false.1 hb'.symm _ hc;exact this (List.any_eq_true.2 ⟨p, hp, by simp⟩)
    cases bv
    case false =>
     have e : Hid (s.data.toList.flatMap (D5 L) = s.data.toList) := hfin.out.2 rfl;clear hfin
     go_wp2
     go_ret
     refine ⟨?_, hB.out⟩;rw [e.out];rfl
    case' true => go_wp2
 all_goals
  have hzb : z <= 1000000000000 := by
   have b2 := (Hc hn.out (fun p hp => by have := hr.out p hp; omega) s.data.toList).2;have e : s.data.toList.length = s.size := by simp
   have := hfin.out.1;omega
  have hzF : Hid (z = (s.data.toList.flatMap (D5 L)).length) := hfin.out.1;have hI : (prog.info? 5).map (fun i => (i.zero, i.size, i.bytes)) = some (some (.int .u8 0), 1, 1) := by kernel_rfl
  obtain ⟨i0, hi, hz0, hz1, hz2⟩ := info_parts hI;rw [run_make (P := prog) wr 30 5 i0 (.int .u8 0) underlying30 hi hz0 .i64 .i64 (z : Int) (z : Int) (by omega) (by omega) (by rw [hz2]; omega) (by omega)];simp only [Result.andThen, Int.toNat_natCast];rw [Oper.upon_value];obtain ⟨g, hg⟩ : ∃ g, g = wr.heap.size := ⟨_, rfl⟩
  obtain ⟨W1, hW1⟩ : ∃ W1, W1 = wr.alloc (.cells (madeCells (Value.int .u8 0).cells (z * i0.size)) 5) := ⟨_, rfl⟩
  have hcur : ∃ cur : List Value, Hid (cur.length = z) /\ Hid (W1.heap[g]? = some (.cells cur.toArray 5 (0, 0))) := by
   refine ⟨(madeCells (Value.int .u8 0).cells (z * i0.size)).toList, ?_, ?_⟩
   ·show _ = _;rw [Array.length_toList, size_madeCells, hz1, Nat.mul_one]
   ·show _ = _;rw [hW1, hg, Array.toArray_toList];exact Array.getElem?_push_size
  obtain ⟨cur0, hl0, hg0⟩ := hcur;have hB1 : Hid (Below w.heap.size w W1) := by rw [hW1]; exact hB.out.alloc hB.out.size _
  have hgw : Hid (w.heap.size <= g) := by rw [hg]; exact hB.out.size
  rw [<- hW1, <- hg];clear hW1 hg hi hz0 hz1 hz2 hI;clear hB hh hz hbv hfin
  go_wp2
  go_loopw [13, 14] (fun t i wr => ∃ (k j : Nat) (cur : List Value), k <= s.size /\ i = .int .i64 (k : Int) /\ Hid (j = ((s.data.toList.take k).flatMap (D5 L)).length) /\ t = .int .i64 (j : Int) /\ Hid (wr.heap[g]? = some (.cells cur.toArray 5 (0, 0))) /\
   Hid (cur.length = z) /\ Hid (cur.take j = byC ((s.data.toList.take k).flatMap (D5 L))) /\ Hid (Below w.heap.size w wr)) (fun _ i _ => s.size - (intOf i).toNat)
  case atStart => exact ⟨0, 0, cur0, Nat.zero_le _, rfl, rfl, rfl, hg0, hl0, (show _ = _ by rfl), hB1⟩
  case round =>
   obtain ⟨k, j, cur, hk, rfl, hj, rfl, hcur, hcl, hct, hB⟩ := hrel;have hzlen := hzF.out;by_cases hlt : k < s.size
   ·have hT' : Tab wr d L := hT.out.keep hB.out;obtain ⟨c, hck⟩ : ∃ c, s[k] = c := ⟨_, rfl⟩
    have hkT : k < s.data.toList.length := by simpa using hlt
    have hcT : s.data.toList[k] = c := by rw [<- hck]; rfl
    have hc256 : c.toNat < 256 := c.toNat_lt;have hroom := Re (L := L) s.data.toList hkT;have htk := JE (L := L) hkT;rw [hcT] at hroom htk;have htl : Hid ((s.data.toList.take (k + 1)).flatMap (D5 L) = (s.data.toList.take k).flatMap (D5 L) ++ D5 L c) := htk;rcases HC hn.out c with ⟨p, hp, hpc, he⟩ | ⟨hno, he⟩
    ·obtain ⟨g1, cp1, h1, h1r⟩ := hT'.rep p hp;have h2 := hr.out p hp;obtain ⟨l, hl⟩ : ∃ l, Hid (p.2.length = l) := ⟨_, rfl⟩
     have a4 : 2 <= l := by have := hl.out; omega
     have a5 : l <= 100 := by have := hl.out; omega
     have a6 : j + l <= z := by rw [he, hl.out, <- hj.out, <- hzlen] at hroom; exact hroom
     have a7 : j < z := by omega
     have a8 : j <= z := by omega
     have a9 : ¬ (z = j) := by omega
     have b1 : (c.toNat : Int) < 256 := by omega
     have b2 : (0 : Int) <= (c.toNat : Int) := by omega
     rw [hpc, hl.out] at h1;have hr1 : Hid (∀ i v, (byC p.2)[i]? = some v -> wr.cell? ((⟨g1, 0, none⟩ : Addr).add i) = some v) := fun i v hv => by
      obtain ⟨b, hb, rfl⟩ := US hv;rw [Yz]; exact h1r i b hb
     rw [he] at htl;obtain ⟨cs, hcs⟩ : ∃ cs, Hid (cs = byC p.2) := ⟨_, rfl⟩
     have hcsl : Hid (cs.length = l) := by rw [hcs.out]; exact (Th _).trans hl.out
     clear hT' hp hpc he h2 hcT hkT hroom htk hzlen h1r
     go_wp2
     go_region_law (refine step_copy_splice rfl (.tmp 105) (.tmp 111) 30 30 rfl 5 underlying30 (by kernel_rfl) (some ⟨g, j, none⟩) (some ⟨g1, 0, none⟩) (z - j) (z - j) l cp1 (by simp [Act.eval, Act.put]) (by simp [Act.eval, Act.put]) g j cur 5 hcur.out cs (by rw [hcsl.out]; simp only [Nat.min_def]; split <;> omega) (fun _ => ⟨rfl, _, rfl, fun i v hv => hr1.out i v (by rw [<- hcs.out]; exact hv)⟩) (by rw [hcsl.out, hcl.out]; exact a6) (by rw [hcs.out]; exact Sm _) w.heap.size w hB.out.drew hgw.out ?_; intro w4 hg4 hb4)
     go_wp2
     go_roundw
     case rel =>
      refine ⟨k + 1, j + l, splice cur j cs, by omega, by go_num, (show _ = _ by rw [htl.out, bm, <- hj.out, hl.out]), ?_, hg4, (show _ = _ by rw [length_splice _ _ _ (by rw [hcsl.out, hcl.out]; exact a6)]; exact hcl.out), ?_, hb4⟩
      ·congr 1;rw [hcsl.out]; exact Rc _ _ (Nat.le_trans a6 hzb)
      ·show _ = _;have := L2 (cs := cs) hct.out (by rw [hcsl.out, hcl.out]; exact a6);rw [hcsl.out] at this;rw [this, htl.out, O2, hcs.out]
     case measure => simp [intOf]; omega
    ·have h1 := hT'.nil c hno;have a6 : j + 1 <= z := by rw [he, <- hj.out, <- hzlen] at hroom; exact hroom
     have a7 : j < z := by omega
     have hw1 : wr.cell? ⟨g, j, none⟩ = some (cur[j]'(by rw [hcl.out]; exact a7)) := by unfold World.cell?; simp only [hcur.out]; simp
     have hw2 : wr.frozen? ⟨g, j, none⟩ = false := by unfold World.frozen?; simp only [hcur.out]; simp
     generalize cur[j]'(by rw [hcl.out]; exact a7) = x0 at hw1;rw [he] at htl;clear hT' hno he hcT hkT hroom htk hzlen
     go_wp2
     go_roundw
     case rel =>
      refine ⟨k + 1, j + 1, cur.set j (.int .u8 (c.toNat : Int)), by omega, by go_num, (show _ = _ by rw [htl.out, bm, <- hj.out]; rfl), by go_num, ?_, (show _ = _ by rw [List.length_set]; exact hcl.out), ?_, hB.out.setCell hgw.out _⟩
      ·have := Ec (i := j) (.int .u8 (c.toNat : Int)) hcur.out;rw [List.setIfInBounds_toArray] at this;exact this
      ·show _ = _;rw [htl.out, O2];exact Q2 hct.out (by rw [hcl.out]; exact a7)
     case measure => simp [intOf]; omega
   ·have hkl : s.data.toList.length <= k := by simp; omega
    have hjz : j = z := by rw [hj.out, List.take_of_length_le hkl, <- hzlen]
    have hall : Hid (∀ i (hi : i < (s.data.toList.flatMap (D5 L)).length), wr.cell? ((⟨g, 0, none⟩ : Addr).add i) = some (.int .u8 ((s.data.toList.flatMap (D5 L))[i].toNat : Int))) := fun i hi => by
     have h1 := hct.out;rw [List.take_of_length_le hkl, hjz, List.take_of_length_le (by rw [hcl.out]; exact Nat.le_refl _)] at h1;have h2 : cur[i]? = some (.int .u8 ((s.data.toList.flatMap (D5 L))[i].toNat : Int)) := by
      rw [h1]; unfold byC; rw [List.getElem?_map, List.getElem?_eq_getElem hi]; rfl
     have h3 : wr.cell? ⟨g, i, none⟩ = some (.int .u8 ((s.data.toList.flatMap (D5 L))[i].toNat : Int)) := by
      unfold World.cell?; simp only [hcur.out]; simpa using h2
     rw [Yz]; exact h3
    clear hj hct hjz hkl;have kk := run_convert_bytes_back (P := prog) wr 30 9 5 ⟨g, 0, none⟩ z (s.data.toList.flatMap (D5 L)) underlying30 underlying5 underlying9 hall.out;rw [<- hzlen] at kk;clear hzlen hall;have kk' : Hid ((convert 30 9 (.slice (some ⟨g, 0, none⟩) z z)).run prog wr = .ok (.string ⟨(s.data.toList.flatMap (D5 L)).toArray⟩) wr) := kk;clear kk
    go_wp2
    rw [kk'.out];simp only [Result.andThen];rw [Oper.upon_value]
    go_wp2
    go_ret
    exact ⟨rfl, hB.out⟩

set_option linter.unusedSimpArgs false
set_option linter.unusedVariables false
open Go.RowKit Go.Shelf
theorem Und.tab' {w W W' : World} {L : List (By8 × List By8)} (h : Und w W L L.length) (hW : ∀ k, w.heap.size <= k -> W'.heap[k]? = W.heap[k]?) : Tab W' (w.heap.size + 1) L := by
 obtain ⟨cur, hr1, hr2, hr3⟩ := h.row;obtain ⟨C, hC1, hC2, hC3, hC4, hC5⟩ := h.obj;rw [Nat.sub_self, List.drop_zero] at hC4 hC5;have hr1' := (hW _ (Nat.le_refl _)).trans hr1;have hC1' := (hW _ (Nat.le_succ _)).trans hC1;have cell : ∀ j v, C[j]? = some v -> W'.cell? ⟨w.heap.size + 1, j, none⟩ = some v := fun j v h => by unfold World.cell?; simp only [hC1']; exact h
 refine ⟨⟨_, _, cell _ _ hC3, fun j hj => ?_⟩, fun c hc => cell _ _ (hC4 _ c.toNat_lt fun p hp e => hc p hp (UInt8.toNat_inj.1 e)), fun p hp => ?_⟩
 ·have hj' : j < L.length := by simpa using hj
  have := hr3 j hj' (by omega);unfold World.cell?;simp only [hr1'];rw [List.getElem_reverse];exact this
 ·obtain ⟨g, cap, h0, h1, h2⟩ := hC5 p hp;exact ⟨g, cap, cell _ _ h1, fun j v hv => (World.cell?_of_block (hW g (by omega))).trans (h2 j v hv)⟩
theorem Xb (B b A c n N : Nat) (L : List (By8 × List By8)) (s : ByteArray) (w : World) (hN : N = L.length /\ n = 2 * N /\ 2 <= N /\ N <= 50) (hr : ∀ p ∈ L, 2 <= p.2.length /\ p.2.length <= 100) (hnd : (L.map (·.1)).Nodup) (hs : s.size <= 4294967296)
  (hB : B <= b) (hAb : A ≠ b) (h0 : w.cell? ⟨b, 0, none⟩ = some (.int .u32 0)) (h1 : w.cell? ⟨b, 1, none⟩ = some (.int .i32 0)) (h3 : w.cell? ⟨b, 3, none⟩ = some .nilIface) (h4 : w.cell? ⟨b, 4, none⟩ = some (.slice (some ⟨A, 0, none⟩) n c))
  (hz : ∀ j, w.frozen? ⟨b, j, none⟩ = false)
  (hA : ∀ i (h : i < L.length) m, m = 2 * i -> w.cell? ⟨A, m, none⟩ = some (.string ⟨#[L[i].1]⟩) /\ w.cell? ⟨A, m + 1, none⟩ = some (.string ⟨L[i].2.toArray⟩)) :
  Calls prog 92 #[.pointer (some ⟨b, 0, none⟩), .string s] w fun e w' => e = .returned (.string ⟨(s.data.toList.flatMap (D5 L)).toArray⟩) /\ Below B w w' := by
 have hbl : b < w.heap.size := World.block_lt_of_cell? _ _ h0;have s2 : ∀ (u : World) (x : Addr) (v : Value), (u.setCell x v).heap.size = u.heap.size := fun u x v => by simp [World.setCell]
 have hW1s : (w.setCell ⟨b, 1, none⟩ (.int .i32 1)).heap.size = w.heap.size := s2 _ _ _;have oth : ∀ j, j ≠ 1 -> (w.setCell ⟨b, 1, none⟩ (.int .i32 1)).cell? ⟨b, j, none⟩ = w.cell? ⟨b, j, none⟩ := fun j hj => World.cell?_setCell_other _ _ _ _ (by simp only [ne_eq, Addr.mk.injEq]; omega);have othA : ∀ j, (w.setCell ⟨b, 1, none⟩ (.int .i32 1)).cell? ⟨A, j, none⟩ = w.cell? ⟨A, j, none⟩ := fun j => World.cell?_setCell_other _ _ _ _ (by simp only [ne_eq, Addr.mk.injEq]; omega);have c1 : (w.setCell ⟨b, 1, none⟩ (.int .i32 1)).cell? ⟨b, 1, none⟩ = some (.int .i32 1) := World.cell?_setCell_same w _ _ h1;have z1 : ∀ j, (w.setCell ⟨b, 1, none⟩ (.int .i32 1)).frozen? ⟨b, j, none⟩ = false := fun j => by rw [World.frozen?_setCell]; exact hz j
 have hb1 : Below B w (w.setCell ⟨b, 1, none⟩ (.int .i32 1)) := (Below.refl B w).setCell hB _;have hbuild := TI b A c n N L (w.setCell ⟨b, 1, none⟩ (.int .i32 1)) hN hr hnd ((oth 4 (by omega)).trans h4) (fun i h m hm => ⟨(othA _).trans (hA i h m hm).1, (othA _).trans (hA i h m hm).2⟩);have e0 := (oth 0 (by omega)).trans h0;have e3 := (oth 3 (by omega)).trans h3;have e4 := (oth 4 (by omega)).trans h4;obtain ⟨W1, hW1⟩ : ∃ W1, W1 = w.setCell ⟨b, 1, none⟩ (.int .i32 1) := ⟨_, rfl⟩
 rw [<- hW1] at hW1s c1 z1 hb1 hbuild e0 e3 e4;have keep : ∀ {w' : World}, Und W1 w' L L.length -> ∀ j, w'.cell? ⟨b, j, none⟩ = W1.cell? ⟨b, j, none⟩ /\ w'.frozen? ⟨b, j, none⟩ = false := fun hU j =>
  ⟨hU.below.cell (by show b < _; omega), (hU.below.frozen (by show b < _; omega)).trans (z1 j)⟩
 have hOnce := LP b (W1.heap.size + 1) .nilIface (.slice (some ⟨A, 0, none⟩) n c) W1 (fun w' => Und W1 w' L L.length) (hbuild.mono fun e w' ⟨he, hU⟩ => ⟨he, (keep hU 3).1.trans e3, (keep hU 4).1.trans e4, (keep hU 3).2, (keep hU 4).2, hU⟩);have ne : ∀ {u : World} {i j : Nat} {v : Value}, i ≠ j -> (u.setCell ⟨b, i, none⟩ v).cell? ⟨b, j, none⟩ = u.cell? ⟨b, j, none⟩ := fun h => World.cell?_setCell_other _ _ _ _ (by simp only [ne_eq, Addr.mk.injEq]; omega)
 have hDo := Zy b ⟨b, 0, none⟩ w (fun w' => ∃ w2, Und W1 w2 L L.length /\ w' = (w2.setCell ⟨b, 3, none⟩ (.iface 268 (.pointer (some ⟨W1.heap.size + 1, 0, none⟩)))).setCell ⟨b, 4, none⟩ (.slice none 0 0)) h0 h1 (hz 0) (hz 1) (by
  rw [<- hW1];refine hOnce.mono fun e w' ⟨he, w2, hU, hw'⟩ => ⟨he, ?_, ?_, ?_, ?_, w2, hU, hw'⟩
  ·rw [hw', ne (by omega), ne (by omega), (keep hU 0).1, e0]
  ·rw [hw', ne (by omega), ne (by omega), (keep hU 1).1, c1]
  ·rw [hw', World.frozen?_setCell, World.frozen?_setCell, (keep hU 0).2]
  ·rw [hw', World.frozen?_setCell, World.frozen?_setCell, (keep hU 1).2])
 refine Og b (W1.heap.size + 1) s _ w (Below B w) (hDo.mono fun e w' ⟨he, w3, ⟨w2, hU, hw3⟩, hw'⟩ => ⟨he, ?_, ?_⟩)
 ·rw [hw', ne (by omega), ne (by omega), World.cell?_drew, hw3, ne (by omega)];exact World.cell?_setCell_same _ _ _ ((keep hU 3).1.trans e3)
 ·have hk : ∀ k, W1.heap.size <= k -> w'.heap[k]? = w2.heap[k]? := fun k hk => by
   have hkb : k ≠ b := by omega
   rw [hw', Below.heap_setCell _ _ _ _ hkb, Below.heap_setCell _ _ _ _ hkb];show w3.heap[k]? = _;rw [hw3, Below.heap_setCell _ _ _ _ hkb, Below.heap_setCell _ _ _ _ hkb]
  have hb2 : Below B w w' := by
   have hBW : B <= W1.heap.size := by omega
   rw [hw', hw3];exact ((((((hb1.trans (hU.below.mono hBW)).setCell hB _).setCell hB _).drew).setCell hB _).setCell hB _)
  have hBw' : B <= w'.heap.size := by have := hb2.size; omega
  exact (S9 (W1.heap.size + 1) L.length L s w' (Und.tab' hU hk) hnd hr rfl (by omega) hs).mono fun e w'' ⟨he, hb⟩ => ⟨he, hb2.trans (hb.mono hBw')⟩
theorem JU {w w' : World} {o1 o2 : Obj} (h : w'.heap = (w.heap.push o1).push o2) : w'.heap[w.heap.size]? = some o1 /\ w'.heap[w.heap.size + 1]? = some o2 /\ (∀ k, k < w.heap.size -> w'.heap[k]? = w.heap[k]?) /\ w'.heap.size = w.heap.size + 2 := by
 rw [h];refine ⟨?_, ?_, fun k hk => ?_, by rw [Array.size_push, Array.size_push]⟩
 ·rw [Array.getElem?_push, if_neg (by rw [Array.size_push]; omega), Array.getElem?_push_size]
 ·have e : w.heap.size + 1 = (w.heap.push o1).size := by rw [Array.size_push]
  rw [e]; exact Array.getElem?_push_size
 ·rw [Array.getElem?_push, if_neg (by rw [Array.size_push]; omega), Array.getElem?_push, if_neg (by omega)]
def prT : List (By8 × List By8) := [(38, [38, 97, 109, 112, 59]), (60, [38, 108, 116, 59]), (62, [38, 103, 116, 59]), (13, [38, 35, 49, 51, 59])]
def prQ : List (By8 × List By8) := [(38, [38, 97, 109, 112, 59]), (60, [38, 108, 116, 59]), (34, [38, 113, 117, 111, 116, 59]), (9, [38, 35, 57, 59]), (10, [38, 35, 49, 48, 59]), (13, [38, 35, 49, 51, 59])]
def Kw (L : List (By8 × List By8)) : List Value := L.flatMap fun p => [.string ⟨#[p.1]⟩, .string ⟨p.2.toArray⟩]
theorem Mg : ∀ (L : List (By8 × List By8)) (i : Nat) (h : i < L.length), (Kw L)[2 * i]? = some (.string ⟨#[L[i].1]⟩) /\ (Kw L)[2 * i + 1]? = some (.string ⟨L[i].2.toArray⟩)
 | p :: l, 0, _ => ⟨rfl, rfl⟩
 | p :: l, i + 1, h => by
  have := Mg l i (by simpa using h);have e : Kw (p :: l) = .string ⟨#[p.1]⟩ :: .string ⟨p.2.toArray⟩ :: Kw l := rfl;rw [e, show 2 * (i + 1) = 2 * i + 1 + 1 by omega, List.getElem?_cons_succ, List.getElem?_cons_succ, List.getElem?_cons_succ, List.getElem?_cons_succ, List.getElem_cons_succ];exact this
theorem R3 (B c n : Nat) (L : List (By8 × List By8)) (zs : Array Value) (s : ByteArray) (w w' : World) (hN : n = 2 * L.length /\ 2 <= L.length /\ L.length <= 50) (hr : ∀ p ∈ L, 2 <= p.2.length /\ p.2.length <= 100) (hnd : (L.map (·.1)).Nodup) (hs : s.size <= 4294967296) (hB : B <= w.heap.size)
  (hh : w'.heap = (w.heap.push (.cells ((Kw L).toArray ++ zs) 9 (0, 0))).push (.cells #[.int .u32 0, .int .i32 0, .int .u32 0, .nilIface, .slice (some ⟨w.heap.size, 0, none⟩) n c] 170 (0, 0))) :
  Calls prog 92 #[.pointer (some ⟨w.heap.size + 1, 0, none⟩), .string s] w' fun e w'' => e = .returned (.string ⟨(s.data.toList.flatMap (D5 L)).toArray⟩) /\ Below B w' w'' := by
 obtain ⟨h1, h2, h3, h4⟩ := JU hh;have cb : ∀ j v, (#[.int .u32 0, .int .i32 0, .int .u32 0, .nilIface, .slice (some ⟨w.heap.size, 0, none⟩) n c] : Array Value)[j]? = some v -> w'.cell? ⟨w.heap.size + 1, j, none⟩ = some v := fun j v h => by unfold World.cell?; simp only [h2]; exact h
 have ca : ∀ j v, (Kw L)[j]? = some v -> w'.cell? ⟨w.heap.size, j, none⟩ = some v := fun j v h => by
  unfold World.cell?; simp only [h1];have hj := (List.getElem?_eq_some_iff.1 h).1;rw [if_neg (by simp), Array.getElem?_append_left (by simpa using hj)];simpa using h
 exact Xb B (w.heap.size + 1) w.heap.size c n L.length L s w' ⟨rfl, hN.1, hN.2.1, hN.2.2⟩ hr hnd hs (by omega) (by omega) (cb 0 _ rfl) (cb 1 _ rfl) (cb 3 _ rfl) (cb 4 _ rfl) (fun j => by unfold World.frozen?; simp only [h2]; simp)
  fun i h m hm => ⟨ca _ _ (by rw [hm]; exact (Mg L i h).1), ca _ _ (by rw [hm]; exact (Mg L i h).2)⟩

set_option linter.unusedVariables false
def escT (c : By8) : List By8 := match c.toNat with
 | 38 => [38, 97, 109, 112, 59]
 | 60 => [38, 108, 116, 59]
 | 62 => [38, 103, 116, 59]
 | 13 => [38, 35, 49, 51, 59]
 | _ => [c]
def escQ (c : By8) : List By8 := match c.toNat with
 | 38 => [38, 97, 109, 112, 59]
 | 60 => [38, 108, 116, 59]
 | 34 => [38, 113, 117, 111, 116, 59]
 | 9 => [38, 35, 57, 59]
 | 10 => [38, 35, 49, 48, 59]
 | 13 => [38, 35, 49, 51, 59]
 | _ => [c]

set_option linter.unusedSimpArgs false
set_option linter.unusedVariables false
open Go.RowKit Go.Shelf
theorem Lc {w : World} {l : List Value} {t : TypeId} : ∀ j u, l[j]? = some u -> (w.alloc (.cells l.toArray t)).cell? ⟨w.heap.size, j, none⟩ = some u := fun j u h => by
 rw [World.cell?_alloc_mark w l.toArray t (0, 0) j]; simpa using h
theorem KI {w w' : World} {o1 o2 : Obj} (h : w'.heap = (w.heap.push o1).push o2) (h1 : w'.os = w.os) (h2 : w'.output = w.output) (h3 : w'.tape = w.tape) : Below w.heap.size w w' :=
 ⟨h1, h3, h2, by rw [(JU h).2.2.2]; omega, fun k hk => (JU h).2.2.1 k hk⟩
set_option maxRecDepth 100000 in
set_option maxHeartbeats 1600000 in
theorem Vm (s : ByteArray) (w : World) (hs : s.size <= 4294967296) : Calls prog 46 #[.string s] w fun e w' => e = .returned (.string ⟨(s.data.toList.flatMap (D5 prT)).toArray⟩) /\ Below w.heap.size w w' := by
 have b0 : Below w.heap.size w (w.alloc (.cells (Kw prT).toArray 9)) := (Below.refl _ w).alloc (Nat.le_refl _) _;have s1 : (w.alloc (.cells (Kw prT).toArray 9)).heap.size = w.heap.size + 1 := Array.size_push _
 have k1 := VG w.heap.size (Kw prT) rfl (fun u hu => by
  obtain ⟨p, _, hp⟩ := List.mem_flatMap.1 hu;simp only [List.mem_cons, List.not_mem_nil, or_false] at hp
  rcases hp with rfl | rfl <;> rfl) (w.alloc (.cells (Kw prT).toArray 9)) Lc
 have k2 : Calls prog 91 #[.slice (some ⟨w.heap.size, 0, none⟩) 8 8] (w.alloc (.cells (Kw prT).toArray 9)) fun e w' => e = .returned (.pointer (some ⟨w.heap.size + 2, 0, none⟩)) /\ Below w.heap.size w w' /\
   Calls prog 92 #[.pointer (some ⟨w.heap.size + 2, 0, none⟩), .string s] w' fun e w'' => e = .returned (.string ⟨(s.data.toList.flatMap (D5 prT)).toArray⟩) /\ Below w.heap.size w w'' := by
  refine k1.mono fun e w' ⟨c, zs, he, hh, h1, h2, h3⟩ => ?_;have hb := b0.trans ((KI hh h1 h2 h3).mono (by rw [s1]; omega));refine ⟨by rw [he, s1], hb, ?_⟩;have := R3 w.heap.size c 8 prT zs s (w.alloc (.cells (Kw prT).toArray 9)) w' (by decide) (by decide) (by decide) hs (by rw [s1]; omega) hh;rw [s1] at this;exact this.mono fun e w'' ⟨he, hb2⟩ => ⟨he, hb.trans hb2⟩
 clear k1 b0 s1
 go_enter func46, ntmps46
 go_wp2_with (first
  | (go_at_call 91; refine k2.mono ?_; rintro e w' ⟨rfl, hb, k3⟩)
  | (go_at_call 92; refine k3.mono ?_; rintro e w'' ⟨rfl, hb2⟩))
 go_ret
 exact ⟨rfl, hb2⟩
set_option maxRecDepth 100000 in
set_option maxHeartbeats 1600000 in
theorem Ty (s : ByteArray) (w : World) (hs : s.size <= 4294967296) : Calls prog 95 #[.string s] w fun e w' => e = .returned (.string ⟨(s.data.toList.flatMap (D5 prQ)).toArray⟩) /\ Below w.heap.size w w' := by
 have b0 : Below w.heap.size w (w.alloc (.cells (Kw prQ).toArray 9)) := (Below.refl _ w).alloc (Nat.le_refl _) _;have s1 : (w.alloc (.cells (Kw prQ).toArray 9)).heap.size = w.heap.size + 1 := Array.size_push _
 have k1 := Tm w.heap.size (Kw prQ) rfl (fun u hu => by
  obtain ⟨p, _, hp⟩ := List.mem_flatMap.1 hu;simp only [List.mem_cons, List.not_mem_nil, or_false] at hp
  rcases hp with rfl | rfl <;> rfl) (w.alloc (.cells (Kw prQ).toArray 9)) Lc
 have k2 : Calls prog 91 #[.slice (some ⟨w.heap.size, 0, none⟩) 12 12] (w.alloc (.cells (Kw prQ).toArray 9)) fun e w' => e = .returned (.pointer (some ⟨w.heap.size + 2, 0, none⟩)) /\ Below w.heap.size w w' /\
   Calls prog 92 #[.pointer (some ⟨w.heap.size + 2, 0, none⟩), .string s] w' fun e w'' => e = .returned (.string ⟨(s.data.toList.flatMap (D5 prQ)).toArray⟩) /\ Below w.heap.size w w'' := by
  refine k1.mono fun e w' ⟨c, zs, he, hh, h1, h2, h3⟩ => ?_;have hb := b0.trans ((KI hh h1 h2 h3).mono (by rw [s1]; omega));refine ⟨by rw [he, s1], hb, ?_⟩;have := R3 w.heap.size c 12 prQ zs s (w.alloc (.cells (Kw prQ).toArray 9)) w' (by decide) (by decide) (by decide) hs (by rw [s1]; omega) hh;rw [s1] at this;exact this.mono fun e w'' ⟨he, hb2⟩ => ⟨he, hb.trans hb2⟩
 clear k1 b0 s1
 go_enter func95, ntmps95
 go_wp2_with (first
  | (go_at_call 91; refine k2.mono ?_; rintro e w' ⟨rfl, hb, k3⟩)
  | (go_at_call 92; refine k3.mono ?_; rintro e w'' ⟨rfl, hb2⟩))
 go_ret
 exact ⟨rfl, hb2⟩
theorem UF (c : By8) : D5 prT c = escT c := by
 have h : ((List.range 256).all fun n => D5 prT (UInt8.ofNat n) == escT (UInt8.ofNat n)) = true := by kernel_rfl
 have := List.all_eq_true.1 h c.toNat (by simp; exact c.toNat_lt);simpa using this
theorem UP (c : By8) : D5 prQ c = escQ c := by
 have h : ((List.range 256).all fun n => D5 prQ (UInt8.ofNat n) == escQ (UInt8.ofNat n)) = true := by kernel_rfl
 have := List.all_eq_true.1 h c.toNat (by simp; exact c.toNat_lt);simpa using this
end Go.Proofs.YtjofelloaofooaaGreatDoor
