/-
  DERIVED. GIVEN WITH THE SEED: THE CARDS: each row of YtfokkdofcekdbaaDoorRows.lean that lists a variable, with what it lists TIED to the program's text (the seventh form; the later family's looks); each row that meets fmt, with fmt's text TOLD by the authors' own Lean function (tested against real Go, not proved from fmt's source: count such statements apart). THE CARD IS WHAT COUNTS. Prove the row's statement (the work); the ties are given (YtfokkdofcekdbaaDoorTie.lean); close each card by the builder's one call (the guide's Derived/Test/ToyasCard.lean, 'card_holds'). Laid BY PROGRAM, IN A SANDBOX (cutbox-door.mjs). By AI agents, Wed Nov 11 2026. No macro, syntax, notation, axiom, sorry.
-/
import Derived.Test.YtfokkdofcekdbaaDoorRows
import GoSem.ClaimSeven
namespace Go.Proofs.YtfokkdofcekdbaaDoor
namespace Rows

/-- THE TIED CARD OF 'lecternlaw03.ScanStands'. -/
def scanStandsCard : Claim7 := { stood := { row := scanStandsRow, standIns := [], harness := (true, "086c93a4ddaa19c2c479a1262501e469569ad491665fc52f70ae61fd738e3e96"), looks := false }, kinds := [], alts := [], laidByText := true, laidKinds := [.data, .data, .data, .pinned, .pinned], laidTests := true, laidLooks := .later }
def ScanStandsCardSaid : Prop := Claim7.holds Tryd.pinned (.plain (OpenSpec.ofChange scanStandsSpec)) scanStandsCard

/-- THE TIED CARD OF 'lecternlaw03.ScanShows'. -/
def scanShowsCard : Claim7 := { stood := { row := scanShowsRow, standIns := [], harness := (true, "086c93a4ddaa19c2c479a1262501e469569ad491665fc52f70ae61fd738e3e96"), looks := false }, kinds := [], alts := [], laidByText := true, laidKinds := [.data, .data, .data, .pinned, .pinned], laidTests := true, laidLooks := .later }
def ScanShowsCardSaid : Prop := Claim7.holds Tryd.pinned (.plain (OpenSpec.ofChange scanShowsSpec)) scanShowsCard

/-- THE TIED CARD OF 'lecternlaw03.ScanCuts'. -/
def scanCutsCard : Claim7 := { stood := { row := scanCutsRow, standIns := [], harness := (true, "086c93a4ddaa19c2c479a1262501e469569ad491665fc52f70ae61fd738e3e96"), looks := false }, kinds := [], alts := [], laidByText := true, laidKinds := [.data, .data, .data, .pinned, .pinned], laidTests := true, laidLooks := .later }
def ScanCutsCardSaid : Prop := Claim7.holds Tryd.pinned (.plain (OpenSpec.ofChange scanCutsSpec)) scanCutsCard

/-- THE TIED CARD OF 'lecternlaw03.ScanSpaces'. -/
def scanSpacesCard : Claim7 := { stood := { row := scanSpacesRow, standIns := [], harness := (true, "086c93a4ddaa19c2c479a1262501e469569ad491665fc52f70ae61fd738e3e96"), looks := false }, kinds := [], alts := [], laidByText := true, laidKinds := [.data, .data, .data, .pinned, .pinned], laidTests := true, laidLooks := .later }
def ScanSpacesCardSaid : Prop := Claim7.holds Tryd.pinned (.plain (OpenSpec.ofChange scanSpacesSpec)) scanSpacesCard

/-- THE TIED CARD OF 'lecternlaw03.ScanBars'. -/
def scanBarsCard : Claim7 := { stood := { row := scanBarsRow, standIns := [], harness := (true, "086c93a4ddaa19c2c479a1262501e469569ad491665fc52f70ae61fd738e3e96"), looks := false }, kinds := [], alts := [], laidByText := true, laidKinds := [.data, .data, .data, .pinned, .pinned], laidTests := true, laidLooks := .later }
def ScanBarsCardSaid : Prop := Claim7.holds Tryd.pinned (.plain (OpenSpec.ofChange scanBarsSpec)) scanBarsCard

/-- THE SECOND FORM's CARD OF 'lecternlaw03.ScanStands'. -/
def scanStandsUptoCard : Claim7 := { stood := { row := scanStandsUptoRow, standIns := [], harness := (true, "086c93a4ddaa19c2c479a1262501e469569ad491665fc52f70ae61fd738e3e96"), looks := false }, kinds := [], alts := [], laidByText := true, laidKinds := [.data, .data, .data, .pinned, .pinned], laidTests := true, laidLooks := .later }
def ScanStandsUptoCardSaid : Prop := Claim7.holds Tryd.pinned (.plain (OpenSpec.upto scanStandsSpec)) scanStandsUptoCard

/-- THE SECOND FORM's CARD OF 'lecternlaw03.ScanShows'. -/
def scanShowsUptoCard : Claim7 := { stood := { row := scanShowsUptoRow, standIns := [], harness := (true, "086c93a4ddaa19c2c479a1262501e469569ad491665fc52f70ae61fd738e3e96"), looks := false }, kinds := [], alts := [], laidByText := true, laidKinds := [.data, .data, .data, .pinned, .pinned], laidTests := true, laidLooks := .later }
def ScanShowsUptoCardSaid : Prop := Claim7.holds Tryd.pinned (.plain (OpenSpec.upto scanShowsSpec)) scanShowsUptoCard

/-- THE SECOND FORM's CARD OF 'lecternlaw03.ScanCuts'. -/
def scanCutsUptoCard : Claim7 := { stood := { row := scanCutsUptoRow, standIns := [], harness := (true, "086c93a4ddaa19c2c479a1262501e469569ad491665fc52f70ae61fd738e3e96"), looks := false }, kinds := [], alts := [], laidByText := true, laidKinds := [.data, .data, .data, .pinned, .pinned], laidTests := true, laidLooks := .later }
def ScanCutsUptoCardSaid : Prop := Claim7.holds Tryd.pinned (.plain (OpenSpec.upto scanCutsSpec)) scanCutsUptoCard

/-- THE SECOND FORM's CARD OF 'lecternlaw03.ScanSpaces'. -/
def scanSpacesUptoCard : Claim7 := { stood := { row := scanSpacesUptoRow, standIns := [], harness := (true, "086c93a4ddaa19c2c479a1262501e469569ad491665fc52f70ae61fd738e3e96"), looks := false }, kinds := [], alts := [], laidByText := true, laidKinds := [.data, .data, .data, .pinned, .pinned], laidTests := true, laidLooks := .later }
def ScanSpacesUptoCardSaid : Prop := Claim7.holds Tryd.pinned (.plain (OpenSpec.upto scanSpacesSpec)) scanSpacesUptoCard

/-- THE SECOND FORM's CARD OF 'lecternlaw03.ScanBars'. -/
def scanBarsUptoCard : Claim7 := { stood := { row := scanBarsUptoRow, standIns := [], harness := (true, "086c93a4ddaa19c2c479a1262501e469569ad491665fc52f70ae61fd738e3e96"), looks := false }, kinds := [], alts := [], laidByText := true, laidKinds := [.data, .data, .data, .pinned, .pinned], laidTests := true, laidLooks := .later }
def ScanBarsUptoCardSaid : Prop := Claim7.holds Tryd.pinned (.plain (OpenSpec.upto scanBarsSpec)) scanBarsUptoCard
end Rows
end Go.Proofs.YtfokkdofcekdbaaDoor
