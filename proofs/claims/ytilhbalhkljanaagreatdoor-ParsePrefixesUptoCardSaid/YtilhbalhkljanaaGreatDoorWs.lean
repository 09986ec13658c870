/- Short names. No condition. -/
import Derived.Test.YtilhbalhkljanaaGreatDoorPf
set_option linter.unusedVariables false
namespace Go.Proofs.YtilhbalhkljanaaGreatDoor
abbrev nB : List UInt8 := []
abbrev nP : List TP := []
abbrev D.I (z : Int) : D := .int .i64 z
abbrev cSc (q : Nat) (p : TS) : Nat × AObj := (q, .cells [.sl 1 (List.map c_u8 p.b) 0, .int .i64 p.at_])
abbrev cTk (q g : Nat) (p : TK) : Nat × AObj := (q, .cells [.int .i64 p.Kind, .int .i64 p.At, .str p.Name, mslO 2 g p.Pairs, .str p.Text, .int .i64 p.Refs])
theorem dF {p : Prop} [Decidable p] (h : ¬ p) : decide p = false := decide_eq_false h
theorem dT {p : Prop} [Decidable p] (h : p) : decide p = true := decide_eq_true h
section
variable {P : Program} {md : Nat → Nat} {w : Bool} {ops : Array Oper} {os : List Oper} {k : St → Prop} {n : Nat} {l : List (Nat × D)} {h : Heap} {d : Nat} {t ty : TypeId} {pos : String} {af : Array Edge} {x y z : Operand}
theorem Mi {K : IntKind} {v : Int} (hx : opL n l x = .int K v) (hk : seqQ P md w ops os ⟨mkSl n ((d, .int K v) :: l), h⟩ k) : seqQ P md w ops (⟨some d, .move x, ty, pos, af, none⟩ :: os) ⟨mkSl n l, h⟩ k := S_m hx hk
theorem Mb {v : Bool} (hx : opL n l x = .bool v) (hk : seqQ P md w ops os ⟨mkSl n ((d, .bool v) :: l), h⟩ k) : seqQ P md w ops (⟨some d, .move x, ty, pos, af, none⟩ :: os) ⟨mkSl n l, h⟩ k := S_m hx hk
theorem Ms {v : List UInt8} (hx : opL n l x = .str v) (hk : seqQ P md w ops os ⟨mkSl n ((d, .str v) :: l), h⟩ k) : seqQ P md w ops (⟨some d, .move x, ty, pos, af, none⟩ :: os) ⟨mkSl n l, h⟩ k := S_m hx hk
theorem Mp {a b} (hx : opL n l x = .ptr a b) (hk : seqQ P md w ops os ⟨mkSl n ((d, .ptr a b) :: l), h⟩ k) : seqQ P md w ops (⟨some d, .move x, ty, pos, af, none⟩ :: os) ⟨mkSl n l, h⟩ k := S_m hx hk
theorem Ml {a b c} (hx : opL n l x = .sl a b c) (hk : seqQ P md w ops os ⟨mkSl n ((d, .sl a b c) :: l), h⟩ k) : seqQ P md w ops (⟨some d, .move x, ty, pos, af, none⟩ :: os) ⟨mkSl n l, h⟩ k := S_m hx hk
theorem Ai {K : IntKind} {v : Int} (hx : opL n l x = .int K v) (hk : seqQ P md w ops os ⟨mkSl n ((d, .int K v) :: l), h⟩ k) : seqQ P md w ops (⟨some d, .assign x, ty, pos, af, none⟩ :: os) ⟨mkSl n l, h⟩ k := S_a hx hk
theorem Ab {v : Bool} (hx : opL n l x = .bool v) (hk : seqQ P md w ops os ⟨mkSl n ((d, .bool v) :: l), h⟩ k) : seqQ P md w ops (⟨some d, .assign x, ty, pos, af, none⟩ :: os) ⟨mkSl n l, h⟩ k := S_a hx hk
theorem Sn {s : St} (hk : k s) : seqQ P md w ops [] s k := S_nil hk
theorem So {op : Op} {j e : Nat} {want b : Bool} (hj : (ops[j]?).bind (·.dst) = some e) (hv : opL n l (.tmp e) = .bool b) (hb : b = !want) (hk : seqQ P md w ops os ⟨mkSl n ((d, .tup []) :: l), h⟩ k) : seqQ P md w ops (⟨some d, op, t, pos, af, some (j, want)⟩ :: os) ⟨mkSl n l, h⟩ k := S_off hj hv hb (S_offD hk)
theorem Sx {op : Op} {dst : Option Nat} {j e : Nat} {want b : Bool} (hj : (ops[j]?).bind (·.dst) = some e) (hv : opL n l (.tmp e) = .bool b) (hb : b = want) (hk : seqQ P md false ops [⟨dst, op, t, pos, af, none⟩] ⟨mkSl n l, h⟩ fun s' => seqQ P md w ops os s' k) : seqQ P md w ops (⟨dst, op, t, pos, af, some (j, want)⟩ :: os) ⟨mkSl n l, h⟩ k := S_on hj hv hb (S_in hk)
theorem CR {Q : Exit → St → Prop} {c : Code} {s : St} {id : Nat} {m : List Oper} (h : seqQ P (mdl []) true m.toArray m s (Exit.sel (WP P c Q) Q .normal)) : WP P (.seq (.region id m.toArray false) c) Q s := C_seq (C_reg (mdl []) h)
theorem bS {α β : Type} {a : α} {f : α → Option β} : (some a).bind f = f a := rfl
theorem cF {α : Type} {a b : α} : cond false a b = b := rfl
theorem cT {α : Type} {a b : α} : cond true a b = a := rfl
theorem Exit.sr {A : St → Prop} {Q : Exit → St → Prop} {s : St} (h : Q .ret s) : Exit.sel A Q .ret s := h
theorem Exit.br {i : Nat} {Q : Exit → St → Prop} {s : St} (h : Q .ret s) : Exit.blk i Q .ret s := h
theorem Exit.jr {body : Code} {Q : Exit → St → Prop} {s : St} (h : Q .ret s) : Exit.jmp P body Q .ret s := h
end
theorem WdC.k {d : D} {cs cs' : List D} (r : WdC cs cs') : WdC (d :: cs) (d :: cs') := .cons (.refl _) r
theorem WL.k {n : Nat} {l l' : List (Nat × D)} {t : Nat} (r : WL n l l') : WL n l ((t, look l t) :: l') := .cons (.refl _) r
end Go.Proofs.YtilhbalhkljanaaGreatDoor
