/- Floats and complex numbers in step with a plain function. No condition. -/
import Derived.Test.YtfokkdofcekdbaaGreatDoorEng27
set_option linter.unusedSimpArgs false
set_option linter.unusedVariables false
namespace Go.Proofs.YtfokkdofcekdbaaGreatDoor
def fadd (a b : Nat) : Option Nat := FloatKind.f64.format.add a b
def fsub (a b : Nat) : Option Nat := FloatKind.f64.format.sub a b
def fmul (a b : Nat) : Option Nat := FloatKind.f64.format.mul a b
def feq (a b : Nat) : Bool := FloatKind.f64.format.order a b == some .eq
def fne (a b : Nat) : Bool := FloatKind.f64.format.order a b != some .eq
def flt (a b : Nat) : Bool := FloatKind.f64.format.order a b == some .lt
def fle (a b : Nat) : Bool := FloatKind.f64.format.order a b == some .lt || FloatKind.f64.format.order a b == some .eq
def fgt (a b : Nat) : Bool := FloatKind.f64.format.order a b == some .gt
def fge (a b : Nat) : Bool := FloatKind.f64.format.order a b == some .gt || FloatKind.f64.format.order a b == some .eq
def fneg (a : Nat) : Nat := Op.negFloat .f64 a
def i2f (n : Int) : Nat := FloatKind.f64.nearest n
def f2i (k : IntKind) (b : Nat) : Option Int := match (FloatKind.f64.decode b).toInt .zero with
 | some n => if k.min ≤ n ∧ n ≤ k.max then some n else none
 | none => none
def cadd (x y : Nat × Nat) : Option (Nat × Nat) := (fadd x.1 y.1).bind fun r => (fadd x.2 y.2).map fun s => (r, s)
def csub (x y : Nat × Nat) : Option (Nat × Nat) := (fsub x.1 y.1).bind fun r => (fsub x.2 y.2).map fun s => (r, s)
def cmul (x y : Nat × Nat) : Option (Nat × Nat) := (fmul x.1 y.1).bind fun r => (fmul x.2 y.2).bind fun s => (fmul x.1 y.2).bind fun u => (fmul x.2 y.1).bind fun v =>
 (fsub r s).bind fun p => (fadd u v).map fun q => (p, q)
def ceq (x y : Nat × Nat) : Bool := feq x.1 y.1 && feq x.2 y.2
section
variable {P : Program} {md : Nat → Nat} {w : Bool} {ops : Array Oper} {os : List Oper} {k : St → Prop} {n : Nat} {l : List (Nat × D)} {h : Heap} {d : Nat} {t ty : TypeId} {pos : String} {af : Array Edge} {x y z : Operand}
variable {β : Type} {G : β → Prop}
end
end Go.Proofs.YtfokkdofcekdbaaGreatDoor
