/-
  DERIVED. GIVEN WITH THE SEED: THE CARDS: each row of YtjofelloaofooaaGreatDoorRows.lean that lists a variable, with what it lists TIED to the program's text (the seventh form; the later family's looks); each row that meets fmt, with fmt's text TOLD by the authors' own Lean function (tested against real Go, not proved from fmt's source: count such statements apart). THE CARD IS WHAT COUNTS. Prove the row's statement (the work); the ties are given (YtjofelloaofooaaGreatDoorTie.lean); close each card by the builder's one call (the guide's Derived/Test/ToyasCard.lean, 'card_holds'). Laid BY PROGRAM, IN A SANDBOX (cutbox-door.mjs). By AI agents, Wed Nov 11 2026. No macro, syntax, notation, axiom, sorry.
-/
import Derived.Test.YtjofelloaofooaaGreatDoorRows
import GoSem.ClaimSeven
namespace Go.Proofs.YtjofelloaofooaaGreatDoor
namespace Rows

/-- THE TIED CARD OF 'lecternlaw07.CanonWrites'. -/
def canonWritesCard : Claim7 := { stood := { row := canonWritesRow, standIns := [], harness := (true, "59ec8419d432cb8f008ff52775c018d10c920b3f7b51f9a58d64997e38d3f015"), looks := true }, kinds := [], alts := [], laidByText := true, laidKinds := [.data, .data, .data, .data, .data, .data, .pinned, .pinned], laidTests := true, laidLooks := .later }
def CanonWritesCardSaid : Prop := Claim7.holds Tryz.pinned (.plain (OpenSpec.ofChange canonWritesSpec)) canonWritesCard

/-- THE TIED CARD OF 'lecternlaw07.CanonParts'. -/
def canonPartsCard : Claim7 := { stood := { row := canonPartsRow, standIns := [], harness := (true, "59ec8419d432cb8f008ff52775c018d10c920b3f7b51f9a58d64997e38d3f015"), looks := true }, kinds := [], alts := [], laidByText := true, laidKinds := [.data, .data, .data, .data, .data, .data, .pinned, .pinned], laidTests := true, laidLooks := .later }
def CanonPartsCardSaid : Prop := Claim7.holds Tryz.pinned (.plain (OpenSpec.ofChange canonPartsSpec)) canonPartsCard

/-- THE TIED CARD OF 'lecternlaw07.CanonApart'. -/
def canonApartCard : Claim7 := { stood := { row := canonApartRow, standIns := [], harness := (true, "59ec8419d432cb8f008ff52775c018d10c920b3f7b51f9a58d64997e38d3f015"), looks := true }, kinds := [], alts := [], laidByText := true, laidKinds := [.data, .data, .data, .data, .data, .data, .pinned, .pinned], laidTests := true, laidLooks := .later }
def CanonApartCardSaid : Prop := Claim7.holds Tryz.pinned (.plain (OpenSpec.ofChange canonApartSpec)) canonApartCard

/-- THE TIED CARD OF 'lecternlaw07.CanonBack'. -/
def canonBackCard : Claim7 := { stood := { row := canonBackRow, standIns := [], harness := (true, "59ec8419d432cb8f008ff52775c018d10c920b3f7b51f9a58d64997e38d3f015"), looks := true }, kinds := [], alts := [], laidByText := true, laidKinds := [.data, .data, .data, .data, .data, .data, .pinned, .pinned], laidTests := true, laidLooks := .later }
def CanonBackCardSaid : Prop := Claim7.holds Tryz.pinned (.plain (OpenSpec.ofChange canonBackSpec)) canonBackCard

/-- THE TIED CARD OF 'lecternlaw07.CanonOnce'. -/
def canonOnceCard : Claim7 := { stood := { row := canonOnceRow, standIns := [], harness := (true, "59ec8419d432cb8f008ff52775c018d10c920b3f7b51f9a58d64997e38d3f015"), looks := true }, kinds := [], alts := [], laidByText := true, laidKinds := [.data, .data, .data, .data, .data, .data, .pinned, .pinned], laidTests := true, laidLooks := .later }
def CanonOnceCardSaid : Prop := Claim7.holds Tryz.pinned (.plain (OpenSpec.ofChange canonOnceSpec)) canonOnceCard

/-- THE SECOND FORM's CARD OF 'lecternlaw07.CanonWrites'. -/
def canonWritesUptoCard : Claim7 := { stood := { row := canonWritesUptoRow, standIns := [], harness := (true, "59ec8419d432cb8f008ff52775c018d10c920b3f7b51f9a58d64997e38d3f015"), looks := true }, kinds := [], alts := [], laidByText := true, laidKinds := [.data, .data, .data, .data, .data, .data, .pinned, .pinned], laidTests := true, laidLooks := .later }
def CanonWritesUptoCardSaid : Prop := Claim7.holds Tryz.pinned (.plain (OpenSpec.upto canonWritesSpec)) canonWritesUptoCard

/-- THE SECOND FORM's CARD OF 'lecternlaw07.CanonParts'. -/
def canonPartsUptoCard : Claim7 := { stood := { row := canonPartsUptoRow, standIns := [], harness := (true, "59ec8419d432cb8f008ff52775c018d10c920b3f7b51f9a58d64997e38d3f015"), looks := true }, kinds := [], alts := [], laidByText := true, laidKinds := [.data, .data, .data, .data, .data, .data, .pinned, .pinned], laidTests := true, laidLooks := .later }
def CanonPartsUptoCardSaid : Prop := Claim7.holds Tryz.pinned (.plain (OpenSpec.upto canonPartsSpec)) canonPartsUptoCard

/-- THE SECOND FORM's CARD OF 'lecternlaw07.CanonApart'. -/
def canonApartUptoCard : Claim7 := { stood := { row := canonApartUptoRow, standIns := [], harness := (true, "59ec8419d432cb8f008ff52775c018d10c920b3f7b51f9a58d64997e38d3f015"), looks := true }, kinds := [], alts := [], laidByText := true, laidKinds := [.data, .data, .data, .data, .data, .data, .pinned, .pinned], laidTests := true, laidLooks := .later }
def CanonApartUptoCardSaid : Prop := Claim7.holds Tryz.pinned (.plain (OpenSpec.upto canonApartSpec)) canonApartUptoCard

/-- THE SECOND FORM's CARD OF 'lecternlaw07.CanonBack'. -/
def canonBackUptoCard : Claim7 := { stood := { row := canonBackUptoRow, standIns := [], harness := (true, "59ec8419d432cb8f008ff52775c018d10c920b3f7b51f9a58d64997e38d3f015"), looks := true }, kinds := [], alts := [], laidByText := true, laidKinds := [.data, .data, .data, .data, .data, .data, .pinned, .pinned], laidTests := true, laidLooks := .later }
def CanonBackUptoCardSaid : Prop := Claim7.holds Tryz.pinned (.plain (OpenSpec.upto canonBackSpec)) canonBackUptoCard

/-- THE SECOND FORM's CARD OF 'lecternlaw07.CanonOnce'. -/
def canonOnceUptoCard : Claim7 := { stood := { row := canonOnceUptoRow, standIns := [], harness := (true, "59ec8419d432cb8f008ff52775c018d10c920b3f7b51f9a58d64997e38d3f015"), looks := true }, kinds := [], alts := [], laidByText := true, laidKinds := [.data, .data, .data, .data, .data, .data, .pinned, .pinned], laidTests := true, laidLooks := .later }
def CanonOnceUptoCardSaid : Prop := Claim7.holds Tryz.pinned (.plain (OpenSpec.upto canonOnceSpec)) canonOnceUptoCard
end Rows
end Go.Proofs.YtjofelloaofooaaGreatDoor
