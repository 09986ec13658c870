/- The cache in memory: room, Put, New. No condition. -/
import Derived.Test.YtoacaikopcdkmaaGreatZ16
import Derived.LaidEqlPtr
set_option linter.unusedSimpArgs false
set_option linter.unusedVariables false
namespace Go.Proofs.YtoacaikopcdkmaaGreat
open Go.RowKit Go.Sort Go.MapKept Go.Maps Go.WideElems Go.ChangeMaps
def hdB (r : Nat) : List Nd → Nat
  | [] => r
  | y :: _ => y.b
def mR (R : List Nd) : Value → Nat
  | .pointer (some A) => R.length - (R.map (·.b)).idxOf A.block
  | _ => 0
theorem idx_at {A B : List Nat} {b : Nat} (h : (A ++ b :: B).Nodup) : (A ++ b :: B).idxOf b = A.length := by
  have hn : b ∉ A := fun hb => by
    rw [List.nodup_append] at h
    exact h.2.2 b hb b List.mem_cons_self rfl
  rw [List.idxOf_append, if_neg hn, List.idxOf_cons_self]; omega
theorem mR_lt {r : Nat} {l1 l2 : List Nd} {x : Nd} (h : (r :: (l1 ++ x :: l2).map (·.b)).Nodup) : mR (l1 ++ x :: l2) (.pointer (some ⟨hdB r l2, 0, none⟩)) < mR (l1 ++ x :: l2) (.pointer (some ⟨x.b, 0, none⟩)) := by
  rw [List.nodup_cons] at h
  obtain ⟨h1, h2⟩ := h
  have e1 : ((l1 ++ x :: l2).map (·.b)).idxOf x.b = l1.length := by
    rw [List.map_append, List.map_cons] at h2 ⊢
    rw [idx_at h2, List.length_map]
  unfold mR
  simp only
  rw [e1]
  have e2 : l1.length + 1 ≤ ((l1 ++ x :: l2).map (·.b)).idxOf (hdB r l2) := by
    cases l2 with
    | nil =>
      rw [show hdB r [] = r from rfl, List.idxOf_eq_length h1]; simp
    | cons y l2 =>
      have : l1 ++ x :: y :: l2 = (l1 ++ [x]) ++ y :: l2 := by simp
      rw [this, List.map_append, List.map_cons] at h2 ⊢
      rw [show hdB r (y :: l2) = y.b from rfl, idx_at h2]; simp
  have e3 : l1.length < (l1 ++ x :: l2).length := by simp
  omega
theorem chn_next {nx pv : Nat → Nat} {r : Nat} {l1 l2 : List Nd} {x : Nd} (h : Chn nx pv (r :: (l1 ++ x :: l2).map (·.b) ++ [r])) : nx x.b = hdB r l2 := by
  have e : r :: (l1 ++ x :: l2).map (·.b) ++ [r] = (r :: l1.map (·.b)) ++ x.b :: (l2.map (·.b) ++ [r]) := by simp
  rw [e, Chn.app] at h
  cases l2 with
  | nil => exact h.2.1
  | cons y l2 => exact h.2.1
theorem chn_first {nx pv : Nat → Nat} {r : Nat} {R : List Nd} (h : Chn nx pv (r :: R.map (·.b) ++ [r])) : nx r = hdB r R := by
  cases R with
  | nil => exact h.1
  | cons y R => exact h.1
theorem neq147 {w : World} {a b : Nat} {ca cb : Array Value} {ta tb : TypeId} (hne : a ≠ b) (ha : w.heap[a]? = some (.cells ca ta (0, 0))) (hb : w.heap[b]? = some (.cells cb tb (0, 0))) :
    (binOp .neq 147 (.pointer (some ⟨a, 0, none⟩)) (.pointer (some ⟨b, 0, none⟩))).run Tryz.prog w = .ok (.bool true) w := by
  have hp : Tryz.prog.underlying 147 = some (.pointer 149) := by kernel_rfl
  obtain ⟨i, hi, hs⟩ : ∃ i, Tryz.prog.info? 149 = some i ∧ i.size = 6 := by
    have h : (Tryz.prog.info? 149).map (·.size) = some 6 := by kernel_rfl
    cases hq : Tryz.prog.info? 149 with
    | none => rw [hq] at h; cases h
    | some i => rw [hq] at h; exact ⟨i, rfl, Option.some.inj h⟩
  have h := run_sameAddr_other (P := Tryz.prog) w (a := ⟨a, 0, none⟩) (b := ⟨b, 0, none⟩) (fun e => hne (by injection e)) ha hb
  have h2 : ∀ d : Nat, (Op.equalIn (d + 1) 147 (.pointer (some ⟨a, 0, none⟩)) (.pointer (some ⟨b, 0, none⟩))).run Tryz.prog w = .ok false w := fun d => by
    simp [Op.equalIn, run_underlying hp, sizeOf, typeInfo, hi, hs, h]
  simp only [binOp]
  simp [Op.equal, Op.maxDepth, h2 9999]
set_option maxRecDepth 100000 in
/-- The first that may go goes. -/
theorem CB.room {κ c w a n m r M R} (h : CB κ c w a n m r M R) (hany : (R.map Nd.en).any Vm.freeE = true) :
    Calls Tryz.prog 134 #[.pointer (some ⟨a, 0, none⟩)] w fun e w' => e = .returned (.bool true) ∧ ∃ x l1 l2, R = l1 ++ x :: l2 ∧ x.dirty = false ∧ (∀ y ∈ l1, y.dirty = true) ∧ CB κ c w' a n m r (delM x.key M) (l1 ++ l2) ∧ To (fun j => j = c + 1 ∨ j = c + 2) κ κ w w' := by
  have ca2 : w.cell? ⟨a, 2, none⟩ = some (.pointer (some ⟨r, 0, none⟩)) := cell_at h.blk rfl
  obtain ⟨nx, pv, hR⟩ := h.ring
  have cr5 : w.cell? ⟨r, 5, none⟩ = some (.pointer (some ⟨hdB r R, 0, none⟩)) := by
    rw [← chn_first hR.chn]; exact hR.ents.c5 (x := rN r) List.mem_cons_self
  have hR' := Hid.mk hR
  have h' := Hid.mk h
  have hany' := Hid.mk hany
  clear hR h hany
  go_enter Tryz.func134, Tryz.ntmps134
  go_wp2
  go_loop [3] (fun t => ∃ l1 l2, Hid (R = l1 ++ l2) ∧ Hid (∀ y ∈ l1, y.dirty = true) ∧ t = .pointer (some ⟨hdB r l2, 0, none⟩)) (fun t => mR R t)
  case atStart => exact ⟨[], R, Hid.mk rfl, Hid.mk (fun _ h => absurd h List.not_mem_nil), rfl⟩
  case round =>
    obtain ⟨l1, l2, hl, hd, rfl⟩ := hrel
    cases l2 with
    | nil =>
      exfalso
      obtain ⟨e, he, h2⟩ := List.any_eq_true.1 hany'.out
      obtain ⟨y, hy, rfl⟩ := List.mem_map.1 he
      rw [hl.out, List.append_nil] at hy
      have := hd.out y hy
      simp [Vm.freeE, Nd.en, this] at h2
    | cons x l2 =>
      have hxm : x ∈ R := by rw [hl.out]; simp
      have cx2 := cell_at (i := 2) (hR'.out.ents x (List.mem_cons_of_mem _ hxm)) rfl
      have cx3 := cell_at (i := 3) (hR'.out.ents x (List.mem_cons_of_mem _ hxm)) rfl
      have cx0 := cell_at (i := 0) (hR'.out.ents x (List.mem_cons_of_mem _ hxm)) rfl
      have cx5 : w.cell? ⟨x.b, 5, none⟩ = some (.pointer (some ⟨hdB r l2, 0, none⟩)) := by
        have h1 := hR'.out.chn
        rw [hl.out] at h1
        rw [← chn_next h1]; exact hR'.out.ents.c5 (List.mem_cons_of_mem _ hxm)
      have hxr : x.b ≠ r := fun e => by
        have := (List.nodup_cons.1 hR'.out.nd).1
        exact this (by rw [← e]; exact List.mem_map.2 ⟨x, hxm, rfl⟩)
      have hneq := neq147 hxr (hR'.out.ents x (List.mem_cons_of_mem _ hxm)) (hR'.out.ents (rN r) List.mem_cons_self)
      change (binOp .neq 147 (.pointer (some ⟨x.b, 0, none⟩)) (.pointer (some ⟨r, 0, none⟩))).run Tryz.prog w = .ok (.bool true) w at hneq
      have hlt : mR R (.pointer (some ⟨hdB r l2, 0, none⟩)) < mR R (.pointer (some ⟨x.b, 0, none⟩)) := by
        have h1 := hR'.out.nd
        rw [hl.out] at h1 ⊢
        exact mR_lt h1
      have cD : Calls Tryz.prog 76 #[.pointer (some ⟨a, 0, none⟩), .int .i64 (x.key : Int)] w fun e w' => e = .returned (.bool true) ∧ Hid (CB κ c w' a n m r (delM x.key M) (l1 ++ l2) ∧ To (fun j => j = c + 1 ∨ j = c + 2) κ κ w w') := by
        have h1 := h'.out
        rw [hl.out] at h1
        exact h1.drop.mono (by rintro e w' ⟨rfl, h2, h3⟩; exact ⟨rfl, Hid.mk ⟨h2, h3⟩⟩)
      change w.cell? ⟨x.b, 0, none⟩ = some (.int .i64 (x.key : Int)) at cx0
      change w.cell? ⟨x.b, 2, none⟩ = some (.bool x.dirty) at cx2
      change w.cell? ⟨x.b, 3, none⟩ = some (.int .i64 0) at cx3
      simp only [show hdB r (x :: l2) = x.b from rfl]
      cases hx : x.dirty with
      | true =>
        rw [hx] at cx2
        have hx' := Hid.mk hx
        clear hx cD
        go_wp2
        refine ⟨⟨l1 ++ [x], l2, Hid.mk (by rw [hl.out]; simp), Hid.mk (fun y hy => ?_), rfl⟩, hlt⟩
        rcases List.mem_append.1 hy with hy | hy
        · exact hd.out y hy
        · rw [List.mem_singleton.1 hy]; exact hx'.out
      | false =>
        rw [hx] at cx2
        have hx' := Hid.mk hx
        clear hx
        go_wp2_with (go_at_call 76; refine cD.mono ?_; rintro e w2 ⟨rfl, hD⟩)
        go_ret
        exact ⟨rfl, x, l1, l2, hl.out, hx'.out, hd.out, hD.out.1, hD.out.2⟩
end Go.Proofs.YtoacaikopcdkmaaGreat
