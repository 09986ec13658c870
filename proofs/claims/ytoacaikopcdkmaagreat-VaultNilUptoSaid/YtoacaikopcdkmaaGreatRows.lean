/-
  No cell of these rows narrows 'for every input' (looked for: loops, veiled, ifaces, maps, wideKeys, modest, calm, conditions, laid).
  DERIVED. THE GIVEN ROWS OF THIS SEAT. 7 by the template 'for every input the law returns true; each argument reads behind the call as it read before'; 0 by the template 'total and deterministic' (their statements: YtoacaikopcdkmaaGreatTotals.lean).
  GIVEN WITH THE SEED: the statements are not yours to turn. If you find one false, say at which input.
  Laid BY PROGRAM, IN A SANDBOX (cutbox-rows.mjs): the forced cells as the released guide's own fill.sh prints them over the translation 153de7b718020233… (all of the seat's roots in one cut). By AI agents, Wed Nov 11 2026. No macro, syntax, notation, axiom, sorry.
-/
import Derived.Test.YtoacaikopcdkmaaGreatChecked
import GoSem.Claim
import GoSem.ClaimJoined
import GoSem.ClaimMapViews
import Derived.JoinedTies
import Derived.KernelRfl
namespace Go.Proofs.YtoacaikopcdkmaaGreat
/- THE CELL 'sum', in the pinned program and in every row, IS THE sha256 OF THE DUMP (.gsa) THAT YtoacaikopcdkmaaGreatProg.lean LOADS. Nothing in Lean hashes anything: it is a label: what it is worth is what the hold of that sum in a sandbox is worth. -/
noncomputable def Tryz.pinned : Pinned := { name := "ytoacaikopcdkmaagreat", sum := "153de7b718020233f5e3463b56f4f22cd96982005b93399956c8a73a0a960edd", checked := Tryz.checked }
namespace Rows
def none {H : Type} : Left H := { results := [], args := [] }

/-- 'lecternlaw17.VaultOpens': WHATEVER THE INPUT: true; the input reads as it did. -/
def vaultOpensSpec : ChangeSpec := { name := "vaultOpens", fn := fun _ => fun
  | [d1, d2, d3] => { results := [.lit (.bool true)], args := [d1, d2, d3] }
  | _ => none }
def vaultOpensRow : OpenClaim := { program := "ytoacaikopcdkmaagreat", sum := "153de7b718020233f5e3463b56f4f22cd96982005b93399956c8a73a0a960edd", func := "lectern/lecternlaw17.VaultOpens", spec := "vaultOpens", inPlace := ["internal/bytealg.Count", "internal/bytealg.IndexByte", "internal/bytealg.Index"], unfollowed := true, recurses := true, named := ["internal/bytealg.MaxLen"], apart := false }
def VaultOpensSaid : Prop := vaultOpensRow.holds Tryz.pinned (OpenSpec.ofChange vaultOpensSpec)

/-- ITS FALSE NEIGHBOUR: 'it returns false'. Refute it at one input. -/
def vaultOpensWrong : ChangeSpec := { name := "vaultOpens", fn := fun _ => fun
  | [d1, d2, d3] => { results := [.lit (.bool false)], args := [d1, d2, d3] }
  | _ => none }
def VaultOpensWrongFalsely : Prop := vaultOpensRow.holds Tryz.pinned (OpenSpec.ofChange vaultOpensWrong)

/-- 'lecternlaw17.VaultFills': WHATEVER THE INPUT: true; the input reads as it did. -/
def vaultFillsSpec : ChangeSpec := { name := "vaultFills", fn := fun _ => fun
  | [d1, d2, d3] => { results := [.lit (.bool true)], args := [d1, d2, d3] }
  | _ => none }
def vaultFillsRow : OpenClaim := { program := "ytoacaikopcdkmaagreat", sum := "153de7b718020233f5e3463b56f4f22cd96982005b93399956c8a73a0a960edd", func := "lectern/lecternlaw17.VaultFills", spec := "vaultFills", inPlace := ["internal/bytealg.Count", "internal/bytealg.IndexByte", "internal/bytealg.Index"], unfollowed := true, recurses := true, named := ["internal/bytealg.MaxLen"], apart := false }
def VaultFillsSaid : Prop := vaultFillsRow.holds Tryz.pinned (OpenSpec.ofChange vaultFillsSpec)

/-- ITS FALSE NEIGHBOUR: 'it returns false'. Refute it at one input. -/
def vaultFillsWrong : ChangeSpec := { name := "vaultFills", fn := fun _ => fun
  | [d1, d2, d3] => { results := [.lit (.bool false)], args := [d1, d2, d3] }
  | _ => none }
def VaultFillsWrongFalsely : Prop := vaultFillsRow.holds Tryz.pinned (OpenSpec.ofChange vaultFillsWrong)

/-- 'lecternlaw17.VaultUndoes': WHATEVER THE INPUT: true; the input reads as it did. -/
def vaultUndoesSpec : ChangeSpec := { name := "vaultUndoes", fn := fun _ => fun
  | [d1, d2, d3, d4, d5] => { results := [.lit (.bool true)], args := [d1, d2, d3, d4, d5] }
  | _ => none }
def vaultUndoesRow : OpenClaim := { program := "ytoacaikopcdkmaagreat", sum := "153de7b718020233f5e3463b56f4f22cd96982005b93399956c8a73a0a960edd", func := "lectern/lecternlaw17.VaultUndoes", spec := "vaultUndoes", inPlace := ["internal/bytealg.Count", "internal/bytealg.IndexByte", "internal/bytealg.Index"], unfollowed := true, recurses := true, named := ["internal/bytealg.MaxLen"], apart := false }
def VaultUndoesSaid : Prop := vaultUndoesRow.holds Tryz.pinned (OpenSpec.ofChange vaultUndoesSpec)

/-- ITS FALSE NEIGHBOUR: 'it returns false'. Refute it at one input. -/
def vaultUndoesWrong : ChangeSpec := { name := "vaultUndoes", fn := fun _ => fun
  | [d1, d2, d3, d4, d5] => { results := [.lit (.bool false)], args := [d1, d2, d3, d4, d5] }
  | _ => none }
def VaultUndoesWrongFalsely : Prop := vaultUndoesRow.holds Tryz.pinned (OpenSpec.ofChange vaultUndoesWrong)

/-- 'lecternlaw17.VaultNil': WHATEVER THE INPUT: true; the input reads as it did. -/
def vaultNilSpec : ChangeSpec := { name := "vaultNil", fn := fun _ => fun
  | [d1, d2] => { results := [.lit (.bool true)], args := [d1, d2] }
  | _ => none }
def vaultNilRow : OpenClaim := { program := "ytoacaikopcdkmaagreat", sum := "153de7b718020233f5e3463b56f4f22cd96982005b93399956c8a73a0a960edd", func := "lectern/lecternlaw17.VaultNil", spec := "vaultNil", inPlace := ["internal/bytealg.Count", "internal/bytealg.IndexByte", "internal/bytealg.Index"], unfollowed := true, recurses := true, named := ["internal/bytealg.MaxLen"], apart := false }
def VaultNilSaid : Prop := vaultNilRow.holds Tryz.pinned (OpenSpec.ofChange vaultNilSpec)

/-- ITS FALSE NEIGHBOUR: 'it returns false'. Refute it at one input. -/
def vaultNilWrong : ChangeSpec := { name := "vaultNil", fn := fun _ => fun
  | [d1, d2] => { results := [.lit (.bool false)], args := [d1, d2] }
  | _ => none }
def VaultNilWrongFalsely : Prop := vaultNilRow.holds Tryz.pinned (OpenSpec.ofChange vaultNilWrong)

/-- 'lecternlaw17.VaultChecks': WHATEVER THE INPUT: true; the input reads as it did. -/
def vaultChecksSpec : ChangeSpec := { name := "vaultChecks", fn := fun _ => fun
  | [d1, d2, d3, d4] => { results := [.lit (.bool true)], args := [d1, d2, d3, d4] }
  | _ => none }
def vaultChecksRow : OpenClaim := { program := "ytoacaikopcdkmaagreat", sum := "153de7b718020233f5e3463b56f4f22cd96982005b93399956c8a73a0a960edd", func := "lectern/lecternlaw17.VaultChecks", spec := "vaultChecks", inPlace := ["internal/bytealg.Count", "internal/bytealg.IndexByte", "internal/bytealg.Index"], unfollowed := true, recurses := true, named := ["internal/bytealg.MaxLen"], apart := false }
def VaultChecksSaid : Prop := vaultChecksRow.holds Tryz.pinned (OpenSpec.ofChange vaultChecksSpec)

/-- ITS FALSE NEIGHBOUR: 'it returns false'. Refute it at one input. -/
def vaultChecksWrong : ChangeSpec := { name := "vaultChecks", fn := fun _ => fun
  | [d1, d2, d3, d4] => { results := [.lit (.bool false)], args := [d1, d2, d3, d4] }
  | _ => none }
def VaultChecksWrongFalsely : Prop := vaultChecksRow.holds Tryz.pinned (OpenSpec.ofChange vaultChecksWrong)

/-- 'lecternlaw17.VaultPlays': WHATEVER THE INPUT: true; the input reads as it did. -/
def vaultPlaysSpec : ChangeSpec := { name := "vaultPlays", fn := fun _ => fun
  | [d1, d2, d3] => { results := [.lit (.bool true)], args := [d1, d2, d3] }
  | _ => none }
def vaultPlaysRow : OpenClaim := { program := "ytoacaikopcdkmaagreat", sum := "153de7b718020233f5e3463b56f4f22cd96982005b93399956c8a73a0a960edd", func := "lectern/lecternlaw17.VaultPlays", spec := "vaultPlays", inPlace := ["internal/bytealg.Count", "internal/bytealg.IndexByte", "internal/bytealg.Index"], unfollowed := true, recurses := true, named := ["internal/bytealg.MaxLen"], apart := false }
def VaultPlaysSaid : Prop := vaultPlaysRow.holds Tryz.pinned (OpenSpec.ofChange vaultPlaysSpec)

/-- ITS FALSE NEIGHBOUR: 'it returns false'. Refute it at one input. -/
def vaultPlaysWrong : ChangeSpec := { name := "vaultPlays", fn := fun _ => fun
  | [d1, d2, d3] => { results := [.lit (.bool false)], args := [d1, d2, d3] }
  | _ => none }
def VaultPlaysWrongFalsely : Prop := vaultPlaysRow.holds Tryz.pinned (OpenSpec.ofChange vaultPlaysWrong)

/-- 'lecternlaw17.VaultAgain': WHATEVER THE INPUT: true; the input reads as it did. -/
def vaultAgainSpec : ChangeSpec := { name := "vaultAgain", fn := fun _ => fun
  | [d1, d2, d3, d4, d5] => { results := [.lit (.bool true)], args := [d1, d2, d3, d4, d5] }
  | _ => none }
def vaultAgainRow : OpenClaim := { program := "ytoacaikopcdkmaagreat", sum := "153de7b718020233f5e3463b56f4f22cd96982005b93399956c8a73a0a960edd", func := "lectern/lecternlaw17.VaultAgain", spec := "vaultAgain", inPlace := ["internal/bytealg.Count", "internal/bytealg.IndexByte", "internal/bytealg.Index"], unfollowed := true, recurses := true, named := ["internal/bytealg.MaxLen"], apart := false }
def VaultAgainSaid : Prop := vaultAgainRow.holds Tryz.pinned (OpenSpec.ofChange vaultAgainSpec)

/-- ITS FALSE NEIGHBOUR: 'it returns false'. Refute it at one input. -/
def vaultAgainWrong : ChangeSpec := { name := "vaultAgain", fn := fun _ => fun
  | [d1, d2, d3, d4, d5] => { results := [.lit (.bool false)], args := [d1, d2, d3, d4, d5] }
  | _ => none }
def VaultAgainWrongFalsely : Prop := vaultAgainRow.holds Tryz.pinned (OpenSpec.ofChange vaultAgainWrong)

/- THE SECOND FORM. 'bulk': how many values and letters a reading holds, each counted each time it is reached (what is shared counts as often as it is met; a slice's spare places count too). A statement '..UptoSaid' is the law's where the arguments, and the package variables that the reading takes, are together of bulk at most 1048576: NARROWER than '..Said'. Prove '..Said' where nothing that the law and all that it calls make is longer than what came in: it says more and counts as full. Else prove '..UptoSaid'. A law counts once. -/
mutual
def uptoBulk {H : Type} : DataW H → Nat
  | .lit (.string bytes) => bytes.length + 1
  | .lit _ => 1
  | .nil => 1
  | .ptr d => uptoBulk d + 1
  | .slice elems spare => uptoBulkAll elems + uptoBulkAll spare + 1
  | .agg parts => uptoBulkAll parts + 1
  | .iface _ d => uptoBulk d + 1
  | .map entries => uptoBulkEntries entries + 1
  | .held _ => 1
def uptoBulkAll {H : Type} : List (DataW H) → Nat
  | [] => 0
  | d :: r => uptoBulk d + uptoBulkAll r
def uptoBulkEntries {H : Type} : List (Lit × DataW H) → Nat
  | [] => 0
  | x :: r => uptoBulkEntry x + uptoBulkEntries r
def uptoBulkEntry {H : Type} : Lit × DataW H → Nat
  | (.string bytes, d) => bytes.length + uptoBulk d + 1
  | (_, d) => uptoBulk d + 1
 end
def uptoSmall : (H : Type) → List (DataW H) → Bool := fun _ ds => decide (uptoBulkAll ds ≤ 1048576)
def OpenSpec.upto (s : _root_.Go.ChangeSpec) : _root_.Go.OpenSpec := { _root_.Go.OpenSpec.ofChange s with cond := some uptoSmall }

/-- 'lecternlaw17.VaultOpens', WHERE WHAT IT READS IS OF BULK AT MOST 1048576: true; the input reads as it did. -/
def vaultOpensUptoRow : OpenClaim := { program := "ytoacaikopcdkmaagreat", sum := "153de7b718020233f5e3463b56f4f22cd96982005b93399956c8a73a0a960edd", func := "lectern/lecternlaw17.VaultOpens", spec := "vaultOpens", inPlace := ["internal/bytealg.Count", "internal/bytealg.IndexByte", "internal/bytealg.Index"], unfollowed := true, recurses := true, named := ["internal/bytealg.MaxLen"], apart := false, narrowed := true }
def VaultOpensUptoSaid : Prop := vaultOpensUptoRow.holds Tryz.pinned (OpenSpec.upto vaultOpensSpec)

/-- 'lecternlaw17.VaultFills', WHERE WHAT IT READS IS OF BULK AT MOST 1048576: true; the input reads as it did. -/
def vaultFillsUptoRow : OpenClaim := { program := "ytoacaikopcdkmaagreat", sum := "153de7b718020233f5e3463b56f4f22cd96982005b93399956c8a73a0a960edd", func := "lectern/lecternlaw17.VaultFills", spec := "vaultFills", inPlace := ["internal/bytealg.Count", "internal/bytealg.IndexByte", "internal/bytealg.Index"], unfollowed := true, recurses := true, named := ["internal/bytealg.MaxLen"], apart := false, narrowed := true }
def VaultFillsUptoSaid : Prop := vaultFillsUptoRow.holds Tryz.pinned (OpenSpec.upto vaultFillsSpec)

/-- 'lecternlaw17.VaultUndoes', WHERE WHAT IT READS IS OF BULK AT MOST 1048576: true; the input reads as it did. -/
def vaultUndoesUptoRow : OpenClaim := { program := "ytoacaikopcdkmaagreat", sum := "153de7b718020233f5e3463b56f4f22cd96982005b93399956c8a73a0a960edd", func := "lectern/lecternlaw17.VaultUndoes", spec := "vaultUndoes", inPlace := ["internal/bytealg.Count", "internal/bytealg.IndexByte", "internal/bytealg.Index"], unfollowed := true, recurses := true, named := ["internal/bytealg.MaxLen"], apart := false, narrowed := true }
def VaultUndoesUptoSaid : Prop := vaultUndoesUptoRow.holds Tryz.pinned (OpenSpec.upto vaultUndoesSpec)

/-- 'lecternlaw17.VaultNil', WHERE WHAT IT READS IS OF BULK AT MOST 1048576: true; the input reads as it did. -/
def vaultNilUptoRow : OpenClaim := { program := "ytoacaikopcdkmaagreat", sum := "153de7b718020233f5e3463b56f4f22cd96982005b93399956c8a73a0a960edd", func := "lectern/lecternlaw17.VaultNil", spec := "vaultNil", inPlace := ["internal/bytealg.Count", "internal/bytealg.IndexByte", "internal/bytealg.Index"], unfollowed := true, recurses := true, named := ["internal/bytealg.MaxLen"], apart := false, narrowed := true }
def VaultNilUptoSaid : Prop := vaultNilUptoRow.holds Tryz.pinned (OpenSpec.upto vaultNilSpec)

/-- 'lecternlaw17.VaultChecks', WHERE WHAT IT READS IS OF BULK AT MOST 1048576: true; the input reads as it did. -/
def vaultChecksUptoRow : OpenClaim := { program := "ytoacaikopcdkmaagreat", sum := "153de7b718020233f5e3463b56f4f22cd96982005b93399956c8a73a0a960edd", func := "lectern/lecternlaw17.VaultChecks", spec := "vaultChecks", inPlace := ["internal/bytealg.Count", "internal/bytealg.IndexByte", "internal/bytealg.Index"], unfollowed := true, recurses := true, named := ["internal/bytealg.MaxLen"], apart := false, narrowed := true }
def VaultChecksUptoSaid : Prop := vaultChecksUptoRow.holds Tryz.pinned (OpenSpec.upto vaultChecksSpec)

/-- 'lecternlaw17.VaultPlays', WHERE WHAT IT READS IS OF BULK AT MOST 1048576: true; the input reads as it did. -/
def vaultPlaysUptoRow : OpenClaim := { program := "ytoacaikopcdkmaagreat", sum := "153de7b718020233f5e3463b56f4f22cd96982005b93399956c8a73a0a960edd", func := "lectern/lecternlaw17.VaultPlays", spec := "vaultPlays", inPlace := ["internal/bytealg.Count", "internal/bytealg.IndexByte", "internal/bytealg.Index"], unfollowed := true, recurses := true, named := ["internal/bytealg.MaxLen"], apart := false, narrowed := true }
def VaultPlaysUptoSaid : Prop := vaultPlaysUptoRow.holds Tryz.pinned (OpenSpec.upto vaultPlaysSpec)

/-- 'lecternlaw17.VaultAgain', WHERE WHAT IT READS IS OF BULK AT MOST 1048576: true; the input reads as it did. -/
def vaultAgainUptoRow : OpenClaim := { program := "ytoacaikopcdkmaagreat", sum := "153de7b718020233f5e3463b56f4f22cd96982005b93399956c8a73a0a960edd", func := "lectern/lecternlaw17.VaultAgain", spec := "vaultAgain", inPlace := ["internal/bytealg.Count", "internal/bytealg.IndexByte", "internal/bytealg.Index"], unfollowed := true, recurses := true, named := ["internal/bytealg.MaxLen"], apart := false, narrowed := true }
def VaultAgainUptoSaid : Prop := vaultAgainUptoRow.holds Tryz.pinned (OpenSpec.upto vaultAgainSpec)

end Rows
end Go.Proofs.YtoacaikopcdkmaaGreat
