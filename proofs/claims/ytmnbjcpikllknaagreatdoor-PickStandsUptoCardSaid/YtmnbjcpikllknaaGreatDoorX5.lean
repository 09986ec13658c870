/- Conditions always answer; PickStands. No condition. -/
import Derived.Test.YtmnbjcpikllknaaGreatDoorX2
import Derived.Test.YtmnbjcpikllknaaGreatDoorX3
import Derived.Test.YtmnbjcpikllknaaGreatDoorX4
import Derived.Test.YtmnbjcpikllknaaGreatDoorWk
import Derived.Test.YtmnbjcpikllknaaGreatDoorEB
import Derived.Test.YtmnbjcpikllknaaGreatDoorX1
set_option linter.unusedSimpArgs false
set_option linter.unusedVariables false
set_option maxRecDepth 20000
namespace Go.Proofs.YtmnbjcpikllknaaGreatDoor
open Fl
theorem WM {l : List Ah} {f : Ah -> Option Bool} (hl : l.length <= 1073741824) (h : ∀ x ∈ l, ∃ b, f x = some b) : Ax l f = some (-1) \/
  ∃ i, ∃ hi : i < l.length, Ax l f = some (i : Int) := by
 unfold Ax;simp only [letJ]
 obtain ⟨o, e, hR⟩ := A0 (b := AA l f) (fun i s => s = (i : Int)) (fun o => match o with | .inl _ => True | .inr z => ∃ i, ∃ hi : i < l.length, z = (i : Int)) l.length (x0 := (0 : Int)) rfl (by
  rintro i _ rec hi rfl;obtain ⟨b, hb⟩ := h _ (List.getElem_mem hi);unfold AA;rw [decide_eq_true (by omega), cond_true, AG hi, Option.bind_some, hb, Option.bind_some]
  cases b with
  | true => exact .inr ⟨_, rfl, i, hi, rfl⟩
  | false =>
   refine .inl ⟨((i + 1 : Nat) : Int), ?_, rfl⟩
   rw [cond_false, w64 (by omega) (by omega)]; rfl) (by
  rintro _ rec rfl;refine ⟨.inl (), ?_, trivial⟩;unfold AA
  rw [decide_eq_false (by omega), cond_false]) (n := FUEL) (by unfold FUEL; omega)
 rw [e, Option.bind_some]
 cases o with
 | inl u => exact .inl rfl
 | inr z => obtain ⟨i, hi, rfl⟩ := hR; exact .inr ⟨i, hi, rfl⟩
theorem VQ {x : Nat} (h : WhF x) : ∃ a : Int, isI x a /\ a.natAbs <= 10000000 := by
 obtain ⟨a, h1, h2, rfl | rfl⟩ := h
 ·exact ⟨a, SJ a (by omega), by omega⟩
 ·exact ⟨-a, Tt (SJ a (by omega)), by omega⟩
theorem KB {f : List Am} {L : FgW} (H : FigW f L) {z : Nat × Nat} (h1 : WhF z.1) (h2 : WhF z.2) : ∃ r, C1 f z = some r := by
 obtain ⟨a, ha, ha2⟩ := VQ h1;obtain ⟨b, hb, hb2⟩ := VQ h2;have hz : Sp z (a, b) := ⟨ha, hb⟩
 by_cases hp : InB (a, b)
 ·exact ⟨_, Tb H hz hp⟩
 ·have hs := QK hz (by simp only; omega) (by simp only; omega);have hf : (inB a && inB b) = false := by
   cases h : (inB a && inB b) with
   | false => rfl
   | true => exact absurd ((QU (a, b)).1 h) hp
  unfold C1;rw [Pj H.fig, Option.bind_some];simp only [letJ];rw [Bool.not_true, cond_false, hs, Option.bind_some];dsimp only;rw [hf];exact ⟨_, rfl⟩
theorem Qf {c : Ac} (hc : CP c) (n : Ab) (hn : szN n <= 1048576) : ∃ b, B7 c n = some b := by
 have hl := Ff n;unfold B7;rcases WM (l := n.Attrs) (f := fun z0 => Df z0 c) (by omega) (fun x _ => ⟨_, rfl⟩) with e | ⟨i, hi, e⟩
 ·rw [e, Option.bind_some]; exact ⟨_, rfl⟩
 ·rw [e, Option.bind_some]
  cases ((decide ((i : Int) < (0 : Int))) || (n.Kind != (2 : Int))) with
  | true => exact ⟨_, rfl⟩
  | false =>
   rw [cond_false, AG hi, Option.bind_some]
   cases (c.kind == (61 : Int)) with
   | true => exact ⟨_, rfl⟩
   | false =>
    rw [cond_false]
    cases hk : (c.kind == (126 : Int)) with
    | false => exact ⟨_, rfl⟩
    | true =>
     obtain ⟨s1, s2⟩ := hc.s (by simpa using hk);have hv := (OD (x := n) (List.getElem_mem hi)).2.2;rw [cond_true];rcases UK n.Attrs[i].Value (by omega) with ⟨f, L, e1, h1, h2⟩ | ⟨pl, er, _, e1⟩
     ·obtain ⟨r, hr⟩ := KB (h1.figW h2) s1 s2;rw [e1, Option.bind_some];dsimp only;rw [hr]; exact ⟨_, rfl⟩
     ·obtain ⟨r, hr⟩ := KB (FR.nil.figW (by simp [Iv])) s1 s2;rw [e1, Option.bind_some];dsimp only;rw [hr]; exact ⟨_, rfl⟩
theorem YO {N : Nat} (hN : N <= 1048576) (q : List UInt8) (hq : q.length <= 1048576) : ∃ x, RdOk N q x := by
 obtain ⟨x, h1, h2, h3, h4⟩ := T9 q hq;exact ⟨x, h1, h2, fun st hst => ⟨fun c hc => ⟨fun n hn => Qf ((h3 st hst).1 c hc) n (Nat.le_trans hn hN), ((h3 st hst).1 c hc).k⟩, Nat.le_trans (h3 st hst).2 (by omega)⟩, h4⟩
theorem Li (d : Ab) (q : List UInt8) (hd : szN d <= 1048576) (hq : q.length <= 1048576) : BF d q = some true := by
 obtain ⟨x, hx⟩ := YO hd q hq;exact pickStands hd q hx

set_option linter.unusedVariables false
theorem Jm (d : Ab) (q : List UInt8) (h : szN d <= 1048576) (hl : q.length <= 1048576) (hp : Heap) :
  CallsA Tryz.prog 8 [.agg (Ae d), .str q] hp fun d _ => d = .bool true :=
 (FP d q (G := fun b => b = true) hp ⟨true, Li d q h hl, rfl⟩).mono fun d h' ⟨r, hr, hd⟩ => by subst hr; exact hd

set_option linter.unusedVariables false
set_option maxRecDepth 100000
open Go.ChangeShapes Go.WideShapes Go.ChangeAt Go.RowKit Go.Lib
def Lp (x : Ab) : Prop := True
theorem HM {H : Type} {enc : TypeId × Value -> H} {w : World} {base : Nat} {held : Bool} : ∀ N : Nat, B.Rds N enc Tryz.prog w base (fun _ => true) held 27 Lp A5 Ae
 | 0 => B.Rds.zero
 | N + 1 => B.rd_structS Tryz.underlying27 (.cons (k := 1) rfl (by kernel_rfl) (B.rd_int Tryz.underlying3) (.cons (k := 2) rfl (by kernel_rfl) (B.rd_struct Tryz.underlying23 (.cons (k := 1) rfl (by kernel_rfl) (B.rd_str Tryz.underlying9) (.cons (k := 1) rfl (by kernel_rfl) (B.rd_str Tryz.underlying9) .nil)) (by kernel_rfl) (ok' := (fun x : Aa => ((fun s : List UInt8 => s.length <= 9223372036854775807)) x.URI /\ ((fun s : List UInt8 => s.length <= 9223372036854775807)) x.Local /\ True)) (sz' := (fun x : Aa => ((fun s : List UInt8 => s.length + 1) x.URI + ((fun s : List UInt8 => s.length + 1) x.Local + 0)) + 1)) (c' := At) (fun y => (⟨y.1, y.2.1⟩ : Aa)) (fun y h => ⟨h, rfl, rfl⟩)) (.cons (k := 1) rfl (by kernel_rfl) (B.rd_slice Tryz.underlying24 (k := 3) (by kernel_rfl) (by decide) (fun _ _ => rfl) (B.rd_struct Tryz.underlying56 (.cons (k := 2) rfl (by kernel_rfl) (B.rd_struct Tryz.underlying23 (.cons (k := 1) rfl (by kernel_rfl) (B.rd_str Tryz.underlying9) (.cons (k := 1) rfl (by kernel_rfl) (B.rd_str Tryz.underlying9) .nil)) (by kernel_rfl) (ok' := (fun x : Aa => ((fun s : List UInt8 => s.length <= 9223372036854775807)) x.URI /\ ((fun s : List UInt8 => s.length <= 9223372036854775807)) x.Local /\ True)) (sz' := (fun x : Aa => ((fun s : List UInt8 => s.length + 1) x.URI + ((fun s : List UInt8 => s.length + 1) x.Local + 0)) + 1)) (c' := At) (fun y => (⟨y.1, y.2.1⟩ : Aa)) (fun y h => ⟨h, rfl, rfl⟩)) (.cons (k := 1) rfl (by kernel_rfl) (B.rd_str Tryz.underlying9) .nil)) (by kernel_rfl) (ok' := (fun x : Ah => ((fun x : Aa => ((fun s : List UInt8 => s.length <= 9223372036854775807)) x.URI /\ ((fun s : List UInt8 => s.length <= 9223372036854775807)) x.Local /\ True)) x.Name /\ ((fun s : List UInt8 => s.length <= 9223372036854775807)) x.Value /\ True)) (sz' := (fun x : Ah => ((fun x : Aa => ((fun s : List UInt8 => s.length + 1) x.URI + ((fun s : List UInt8 => s.length + 1) x.Local + 0)) + 1) x.Name + ((fun s : List UInt8 => s.length + 1) x.Value + 0)) + 1)) (c' := Al) (fun y => (⟨y.1, y.2.1⟩ : Ah)) (fun y h => ⟨h, rfl, rfl⟩))) (.cons (k := 1) rfl (by kernel_rfl) (B.rd_slice Tryz.underlying25 (k := 6) (by kernel_rfl) (by decide) (fun y _ => by rw [Ad]; rfl) (HM N)) (.cons (k := 1) rfl (by kernel_rfl) (B.rd_str Tryz.underlying9) .nil))))) (by kernel_rfl) (fun y => (⟨y.1, y.2.1, y.2.2.1, y.2.2.2.1, y.2.2.2.2.1⟩ : Ab)) (fun y h => ⟨trivial, by show A5 (⟨_, _, _, _, _⟩ : Ab) = _; rw [A5, Jw], by rw [Ad]; rfl⟩)
end Go.Proofs.YtmnbjcpikllknaaGreatDoor
