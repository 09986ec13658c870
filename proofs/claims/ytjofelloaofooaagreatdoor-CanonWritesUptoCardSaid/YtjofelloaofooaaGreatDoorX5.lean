/- CanonWrites: the plain law. No condition. -/
import Derived.Test.YtjofelloaofooaaGreatDoorX3
import Derived.Test.YtjofelloaofooaaGreatDoorWk
set_option linter.unusedSimpArgs false
set_option linter.unusedVariables false
set_option maxRecDepth 20000
namespace Go.Proofs.YtjofelloaofooaaGreatDoor
open Go.Proofs.Tryz
theorem Lm (l : List Ae) (hl : l.length <= 10000000000) : Br l l = some true := by
 unfold Br;rw [bne_self_eq_false, bc]
 obtain ⟨o, e, rfl⟩ := AC (b := B0 l l) (fun i x => x = (i : Int)) (fun o => o = .inl ()) l.length (x0 := (0 : Int)) rfl (by
  rintro i _ rec hi rfl;left;refine ⟨((i + 1 : Nat) : Int), ?_, rfl⟩;unfold B0;rw [bf (by omega), bb, Av hi, ba, ba];simp only [beq_self_eq_true, Bool.and_self, Bool.not_true, bc];rw [w64 (by omega) (by omega)]
  rfl) (by
  rintro _ rec rfl;refine ⟨_, ?_, rfl⟩;unfold B0
  rw [bg (by omega), bc]) (n := FUEL) (by unfold FUEL; omega)
 simp only [AJ];rw [e]; rfl
theorem Su {x : Ab} {m : Nat} (ha : x.Attrs.length <= 10000000000) (hk : x.Kids.length <= 10000000000) (h : ∀ k ∈ x.Kids, iter A5 m (k, k) = some true) : iter A5 (m + 1) (x, x) = some true := by
 rw [DH];generalize iter A5 m = rc at h ⊢;unfold A5;dsimp only;simp only [AJ, bne_self_eq_false, beq_self_eq_true, Bool.and_self, Bool.not_true, Bool.or_self, bc];rw [Lm _ ha, ba, Bool.not_true, show (false || false) = false from rfl, bc]
 obtain ⟨o, e, rfl⟩ := AC (b := CW x x rc) (fun i y => y = (i : Int)) (fun o => o = .inl ()) x.Kids.length (x0 := (0 : Int)) rfl (by
  rintro i _ rec hi rfl;left;refine ⟨((i + 1 : Nat) : Int), ?_, rfl⟩;unfold CW;rw [bf (by omega), bb, Av hi, ba, ba, h _ (bn hi), ba, Bool.not_true, bc, w64 (by omega) (by omega)]
  rfl) (by
  rintro _ rec rfl;refine ⟨_, ?_, rfl⟩;unfold CW
  rw [bg (by omega), bc]) (n := FUEL) (by unfold FUEL; omega)
 rw [e]; rfl
theorem Uk : ∀ (n : Nat) (x : Ab), szN x < n -> szN x <= 1049600 -> iter A5 n (x, x) = some true
 | 0, x, h, _ => by omega
 | n + 1, x, h, hx => by
  have h1 := Dg x;have h2 := CA x;exact Su (by omega) (by omega) fun k hk => by
   have := HV hk;exact Uk n k (by omega) (by omega)
theorem Tg (x : Ab) (h : szN x <= 1049600) : Du x x = some true := Uk FUEL x (by unfold FUEL; omega) h
theorem Ux : ∀ (n : Nat) (x : Ab), szN x < n -> szN x <= 1049600 -> iter Bj n x = some x
 | 0, x, h, _ => by omega
 | n + 1, x, h, hx => by
  have h1 := Dg x;have h2 := CA x;have ih : ∀ k ∈ x.Kids, iter Bj n k = some k := fun k hk => by
   have := HV hk;exact Ux n k (by omega) (by omega)
  rw [DH];generalize iter Bj n = rc at ih ⊢;unfold Bj AJ;dsimp only;rw [FA (by simp only [bj]; omega) (by simp only [bj]; omega), ba]
  obtain ⟨o, e, rfl⟩ := AC (b := BO x rc) (fun i s => s = (x.Kind, x.Name.URI, x.Name.Local, [] ++ x.Attrs, x.Kids.take i, x.Text, (i : Int))) (fun o => o = (x.Kind, x.Name.URI, x.Name.Local, [] ++ x.Attrs, x.Kids, x.Text)) x.Kids.length (x0 := (x.Kind, x.Name.URI, x.Name.Local, [] ++ x.Attrs, [], x.Text, (0 : Int))) (by simp) (by
   rintro i _ rec hi rfl;left;refine ⟨(x.Kind, x.Name.URI, x.Name.Local, [] ++ x.Attrs, x.Kids.take (i + 1), x.Text, ((i + 1 : Nat) : Int)), ?_, rfl⟩;unfold BO;dsimp only;rw [bf (by omega), bb, Av hi, ba, ih _ (bn hi), ba, FA (by simp; omega) (by simp; omega), ba, Gc hi, w64 (by omega) (by omega)]
   rfl) (by
   rintro _ rec rfl;refine ⟨_, ?_, rfl⟩;unfold BO;dsimp only
   rw [bg (by omega), bc, List.take_length]) (n := FUEL) (by unfold FUEL; omega)
  rw [e, ba];simp only [List.nil_append];exact congrArg some (SN x)
theorem T9 (x : Ab) (h : szN x <= 1049600) : Dw x = some x := Ux FUEL x (by unfold FUEL; omega) h
theorem XJ (L : List (List By8)) (h : L.length <= 1049600) : iter (Be L L) FUEL (0 : Int) = some (.inl ()) := by
 obtain ⟨o, e, rfl⟩ := AC (b := Be L L) (fun i y => y = (i : Int)) (fun o => o = .inl ()) L.length (x0 := (0 : Int)) rfl (by
  rintro i _ rec hi rfl;left;refine ⟨((i + 1 : Nat) : Int), ?_, rfl⟩;unfold Be;rw [bf (by omega), bb, Av hi, ba, ba, beq_self_eq_true, Bool.not_true, bc, w64 (by omega) (by omega)]
  rfl) (by
  rintro _ rec rfl;refine ⟨_, ?_, rfl⟩;unfold Be
  rw [bg (by omega), bc]) (n := FUEL) (by unfold FUEL; omega)
 exact e
theorem Wm (x : List By8 × Int) (h : x.1.length <= 1049600) : iter (Bf x) FUEL (x.1, (0 : Int)) = some () := by
 obtain ⟨o, e, _⟩ := AC (b := Bf x) (fun i y => y.2 = (i : Int) /\ y.1.length = x.1.length) (fun _ => True) x.1.length (x0 := (x.1, (0 : Int))) ⟨rfl, rfl⟩ (by
  rintro i ⟨a, j⟩ rec hi ⟨h1, h2⟩;simp only at h1 h2;subst h1;left;refine ⟨(List.set a i (UInt8.ofNat 0), ((i + 1 : Nat) : Int)), ?_, rfl, by simp [h2]⟩;have hi' : i < a.length := by omega
  have hu : u8 (0 : Int) = some (UInt8.ofNat 0) := rfl;unfold Bf;dsimp only;rw [bf (by omega), bb, Av hi', ba, hu, ba, ba, Int.toNat_natCast, w64 (by omega) (by omega)]
  rfl) (by
  rintro ⟨a, j⟩ rec ⟨h1, h2⟩;simp only at h1;subst h1;refine ⟨(), ?_, trivial⟩;unfold Bf;dsimp only
  rw [bg (by omega), bc]) (n := FUEL) (by unfold FUEL; omega)
 exact e
theorem KH (d : Ab) (hd : szN d <= 1049600) : CN d = some true := by
 obtain ⟨r, hw, hs, hl, _⟩ := Q3 d hd;have hp := PX_len d;have hsame : CZ r.1 r.1 = some true := by unfold CZ; rw [beq_self_eq_true]
 unfold CN;rw [VL, ba, Bool.not_true, bc, T9 d hd, ba, hw, ba, hs, ba, LB d hd, ba, Lr d hd, ba];simp only [AJ];rw [hsame, Tg d hd, XJ _ (by omega), Wm r (by omega)];simp [hsame]

set_option linter.unusedVariables false
theorem Js (d : Ab) (h : szN d <= 1048576) (hp : Heap) : CallsA prog 3 [.agg (Ac d)] hp fun d _ => d = .bool true :=
 (Fz d (G := fun b => b = true) hp ⟨true, KH d (by omega), rfl⟩).mono fun d h' ⟨r, hr, hd⟩ => by subst hr; exact hd

set_option linter.unusedVariables false
set_option maxRecDepth 100000
open Go.ChangeShapes Go.WideShapes Go.ChangeAt Go.RowKit Go.Lib
def La (x : Ab) : Prop := True
theorem Iz {H : Type} {enc : TypeId × Value -> H} {w : World} {base : Nat} {held : Bool} : ∀ N : Nat, B.Rds N enc prog w base (fun _ => true) held 27 La AE Ac
 | 0 => B.Rds.zero
 | N + 1 => B.rd_structS underlying27 (.cons (k := 1) rfl (by kernel_rfl) (B.rd_int underlying3) (.cons (k := 2) rfl (by kernel_rfl) (B.rd_struct underlying23 (.cons (k := 1) rfl (by kernel_rfl) (B.rd_str underlying9) (.cons (k := 1) rfl (by kernel_rfl) (B.rd_str underlying9) .nil)) (by kernel_rfl) (ok' := (fun x : Ad => ((fun s : List By8 => s.length <= 9223372036854775807)) x.URI /\ ((fun s : List By8 => s.length <= 9223372036854775807)) x.Local /\ True)) (sz' := (fun x : Ad => ((fun s : List By8 => s.length + 1) x.URI + ((fun s : List By8 => s.length + 1) x.Local + 0)) + 1)) (c' := An) (fun y => (⟨y.1, y.2.1⟩ : Ad)) (fun y h => ⟨h, rfl, rfl⟩)) (.cons (k := 1) rfl (by kernel_rfl) (B.rd_slice underlying24 (k := 3) (by kernel_rfl) (by decide) (fun _ _ => rfl) (B.rd_struct underlying47 (.cons (k := 2) rfl (by kernel_rfl) (B.rd_struct underlying23 (.cons (k := 1) rfl (by kernel_rfl) (B.rd_str underlying9) (.cons (k := 1) rfl (by kernel_rfl) (B.rd_str underlying9) .nil)) (by kernel_rfl) (ok' := (fun x : Ad => ((fun s : List By8 => s.length <= 9223372036854775807)) x.URI /\ ((fun s : List By8 => s.length <= 9223372036854775807)) x.Local /\ True)) (sz' := (fun x : Ad => ((fun s : List By8 => s.length + 1) x.URI + ((fun s : List By8 => s.length + 1) x.Local + 0)) + 1)) (c' := An) (fun y => (⟨y.1, y.2.1⟩ : Ad)) (fun y h => ⟨h, rfl, rfl⟩)) (.cons (k := 1) rfl (by kernel_rfl) (B.rd_str underlying9) .nil)) (by kernel_rfl) (ok' := (fun x : Ae => ((fun x : Ad => ((fun s : List By8 => s.length <= 9223372036854775807)) x.URI /\ ((fun s : List By8 => s.length <= 9223372036854775807)) x.Local /\ True)) x.Name /\ ((fun s : List By8 => s.length <= 9223372036854775807)) x.Value /\ True)) (sz' := (fun x : Ae => ((fun x : Ad => ((fun s : List By8 => s.length + 1) x.URI + ((fun s : List By8 => s.length + 1) x.Local + 0)) + 1) x.Name + ((fun s : List By8 => s.length + 1) x.Value + 0)) + 1)) (c' := Af) (fun y => (⟨y.1, y.2.1⟩ : Ae)) (fun y h => ⟨h, rfl, rfl⟩))) (.cons (k := 1) rfl (by kernel_rfl) (B.rd_slice underlying25 (k := 6) (by kernel_rfl) (by decide) (fun y _ => by rw [Aa]; rfl) (Iz N)) (.cons (k := 1) rfl (by kernel_rfl) (B.rd_str underlying9) .nil))))) (by kernel_rfl) (fun y => (⟨y.1, y.2.1, y.2.2.1, y.2.2.2.1, y.2.2.2.2.1⟩ : Ab)) (fun y h => ⟨trivial, by show AE (⟨_, _, _, _, _⟩ : Ab) = _; rw [AE, I6], by rw [Aa]; rfl⟩)
end Go.Proofs.YtjofelloaofooaaGreatDoor
