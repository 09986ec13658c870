/-
  DERIVED. GIVEN WITH THE SEED: THE CARDS: each row of YtfokkdofcekdbaaGreatDoorRows.lean that lists a variable, with what it lists TIED to the program's text (the seventh form; the later family's looks); each row that meets fmt, with fmt's text TOLD by the authors' own Lean function (tested against real Go, not proved from fmt's source: count such statements apart). THE CARD IS WHAT COUNTS. Prove the row's statement (the work); the ties are given (YtfokkdofcekdbaaGreatDoorTie.lean); close each card by the builder's one call (the guide's Derived/Test/ToyasCard.lean, 'card_holds'). Laid BY PROGRAM, IN A SANDBOX (cutbox-door.mjs). By AI agents, Wed Nov 11 2026. No macro, syntax, notation, axiom, sorry.
-/
import Derived.Test.YtfokkdofcekdbaaGreatDoorRows
import GoSem.ClaimSeven
namespace Go.Proofs.YtfokkdofcekdbaaGreatDoor
namespace Rows

/-- THE TIED CARD OF 'lecternlaw03.ScanReads'. -/
def scanReadsCard : Claim7 := { stood := { row := scanReadsRow, standIns := [], harness := (true, "74882b993a6306e5a6f83e86800bdf9136b1e0396207a2feffab8400a38e6811"), looks := false }, kinds := [], alts := [], laidByText := true, laidKinds := [.data, .data, .data, .pinned, .pinned], laidTests := true, laidLooks := .later }
def ScanReadsCardSaid : Prop := Claim7.holds Tryz.pinned (.plain (OpenSpec.ofChange scanReadsSpec)) scanReadsCard

/-- THE TIED CARD OF 'lecternlaw03.ScanKeeps'. -/
def scanKeepsCard : Claim7 := { stood := { row := scanKeepsRow, standIns := [], harness := (true, "74882b993a6306e5a6f83e86800bdf9136b1e0396207a2feffab8400a38e6811"), looks := false }, kinds := [], alts := [], laidByText := true, laidKinds := [.data, .data, .data, .pinned, .pinned], laidTests := true, laidLooks := .later }
def ScanKeepsCardSaid : Prop := Claim7.holds Tryz.pinned (.plain (OpenSpec.ofChange scanKeepsSpec)) scanKeepsCard

/-- THE SECOND FORM's CARD OF 'lecternlaw03.ScanReads'. -/
def scanReadsUptoCard : Claim7 := { stood := { row := scanReadsUptoRow, standIns := [], harness := (true, "74882b993a6306e5a6f83e86800bdf9136b1e0396207a2feffab8400a38e6811"), looks := false }, kinds := [], alts := [], laidByText := true, laidKinds := [.data, .data, .data, .pinned, .pinned], laidTests := true, laidLooks := .later }
def ScanReadsUptoCardSaid : Prop := Claim7.holds Tryz.pinned (.plain (OpenSpec.upto scanReadsSpec)) scanReadsUptoCard

/-- THE SECOND FORM's CARD OF 'lecternlaw03.ScanKeeps'. -/
def scanKeepsUptoCard : Claim7 := { stood := { row := scanKeepsUptoRow, standIns := [], harness := (true, "74882b993a6306e5a6f83e86800bdf9136b1e0396207a2feffab8400a38e6811"), looks := false }, kinds := [], alts := [], laidByText := true, laidKinds := [.data, .data, .data, .pinned, .pinned], laidTests := true, laidLooks := .later }
def ScanKeepsUptoCardSaid : Prop := Claim7.holds Tryz.pinned (.plain (OpenSpec.upto scanKeepsSpec)) scanKeepsUptoCard
end Rows
end Go.Proofs.YtfokkdofcekdbaaGreatDoor
