/-
  DERIVED. GIVEN WITH THE SEED: THE CARDS: each row of YtilhbalhkljanaaGreatDoorRows.lean that lists a variable, with what it lists TIED to the program's text (the seventh form; the later family's looks); each row that meets fmt, with fmt's text TOLD by the authors' own Lean function (tested against real Go, not proved from fmt's source: count such statements apart). THE CARD IS WHAT COUNTS. Prove the row's statement (the work); the ties are given (YtilhbalhkljanaaGreatDoorTie.lean); close each card by the builder's one call (the guide's Derived/Test/ToyasCard.lean, 'card_holds'). Laid BY PROGRAM, IN A SANDBOX (cutbox-door.mjs). By AI agents, Wed Nov 11 2026. No macro, syntax, notation, axiom, sorry.
-/
import Derived.Test.YtilhbalhkljanaaGreatDoorRows
import GoSem.ClaimSeven
namespace Go.Proofs.YtilhbalhkljanaaGreatDoor
namespace Rows

/-- THE TIED CARD OF 'lecternlaw06.ParseReads'. -/
def parseReadsCard : Claim7 := { stood := { row := parseReadsRow, standIns := [], harness := (true, "dfc2f36ba9727ddcccd210baf11c1c5c49ef5e7ca696f73d1d8ba4ecff8a2126"), looks := false }, kinds := [], alts := [], laidByText := true, laidKinds := [.data, .data, .data, .pinned, .pinned], laidTests := true, laidLooks := .later }
def ParseReadsCardSaid : Prop := Claim7.holds Tryz.pinned (.plain (OpenSpec.ofChange parseReadsSpec)) parseReadsCard

/-- THE TIED CARD OF 'lecternlaw06.ParseTexts'. -/
def parseTextsCard : Claim7 := { stood := { row := parseTextsRow, standIns := [], harness := (true, "dfc2f36ba9727ddcccd210baf11c1c5c49ef5e7ca696f73d1d8ba4ecff8a2126"), looks := false }, kinds := [], alts := [], laidByText := true, laidKinds := [.data, .data, .data, .pinned, .pinned], laidTests := true, laidLooks := .later }
def ParseTextsCardSaid : Prop := Claim7.holds Tryz.pinned (.plain (OpenSpec.ofChange parseTextsSpec)) parseTextsCard

/-- THE TIED CARD OF 'lecternlaw06.ParsePrefixes'. -/
def parsePrefixesCard : Claim7 := { stood := { row := parsePrefixesRow, standIns := [], harness := (true, "dfc2f36ba9727ddcccd210baf11c1c5c49ef5e7ca696f73d1d8ba4ecff8a2126"), looks := false }, kinds := [], alts := [], laidByText := true, laidKinds := [.data, .data, .data, .pinned, .pinned], laidTests := true, laidLooks := .later }
def ParsePrefixesCardSaid : Prop := Claim7.holds Tryz.pinned (.plain (OpenSpec.ofChange parsePrefixesSpec)) parsePrefixesCard

/-- THE TIED CARD OF 'lecternlaw06.ParseAround'. -/
def parseAroundCard : Claim7 := { stood := { row := parseAroundRow, standIns := [], harness := (true, "dfc2f36ba9727ddcccd210baf11c1c5c49ef5e7ca696f73d1d8ba4ecff8a2126"), looks := false }, kinds := [], alts := [], laidByText := true, laidKinds := [.data, .data, .data, .pinned, .pinned], laidTests := true, laidLooks := .later }
def ParseAroundCardSaid : Prop := Claim7.holds Tryz.pinned (.plain (OpenSpec.ofChange parseAroundSpec)) parseAroundCard

/-- THE TIED CARD OF 'lecternlaw06.ParseNests'. -/
def parseNestsCard : Claim7 := { stood := { row := parseNestsRow, standIns := [], harness := (true, "dfc2f36ba9727ddcccd210baf11c1c5c49ef5e7ca696f73d1d8ba4ecff8a2126"), looks := false }, kinds := [], alts := [], laidByText := true, laidKinds := [.data, .data, .data, .pinned, .pinned], laidTests := true, laidLooks := .later }
def ParseNestsCardSaid : Prop := Claim7.holds Tryz.pinned (.plain (OpenSpec.ofChange parseNestsSpec)) parseNestsCard

/-- THE TIED CARD OF 'lecternlaw06.ParseRight'. -/
def parseRightCard : Claim7 := { stood := { row := parseRightRow, standIns := [], harness := (true, "dfc2f36ba9727ddcccd210baf11c1c5c49ef5e7ca696f73d1d8ba4ecff8a2126"), looks := false }, kinds := [], alts := [], laidByText := true, laidKinds := [.data, .data, .data, .pinned, .pinned], laidTests := true, laidLooks := .later }
def ParseRightCardSaid : Prop := Claim7.holds Tryz.pinned (.plain (OpenSpec.ofChange parseRightSpec)) parseRightCard

/-- THE SECOND FORM's CARD OF 'lecternlaw06.ParseReads'. -/
def parseReadsUptoCard : Claim7 := { stood := { row := parseReadsUptoRow, standIns := [], harness := (true, "dfc2f36ba9727ddcccd210baf11c1c5c49ef5e7ca696f73d1d8ba4ecff8a2126"), looks := false }, kinds := [], alts := [], laidByText := true, laidKinds := [.data, .data, .data, .pinned, .pinned], laidTests := true, laidLooks := .later }
def ParseReadsUptoCardSaid : Prop := Claim7.holds Tryz.pinned (.plain (OpenSpec.upto parseReadsSpec)) parseReadsUptoCard

/-- THE SECOND FORM's CARD OF 'lecternlaw06.ParseTexts'. -/
def parseTextsUptoCard : Claim7 := { stood := { row := parseTextsUptoRow, standIns := [], harness := (true, "dfc2f36ba9727ddcccd210baf11c1c5c49ef5e7ca696f73d1d8ba4ecff8a2126"), looks := false }, kinds := [], alts := [], laidByText := true, laidKinds := [.data, .data, .data, .pinned, .pinned], laidTests := true, laidLooks := .later }
def ParseTextsUptoCardSaid : Prop := Claim7.holds Tryz.pinned (.plain (OpenSpec.upto parseTextsSpec)) parseTextsUptoCard

/-- THE SECOND FORM's CARD OF 'lecternlaw06.ParsePrefixes'. -/
def parsePrefixesUptoCard : Claim7 := { stood := { row := parsePrefixesUptoRow, standIns := [], harness := (true, "dfc2f36ba9727ddcccd210baf11c1c5c49ef5e7ca696f73d1d8ba4ecff8a2126"), looks := false }, kinds := [], alts := [], laidByText := true, laidKinds := [.data, .data, .data, .pinned, .pinned], laidTests := true, laidLooks := .later }
def ParsePrefixesUptoCardSaid : Prop := Claim7.holds Tryz.pinned (.plain (OpenSpec.upto parsePrefixesSpec)) parsePrefixesUptoCard

/-- THE SECOND FORM's CARD OF 'lecternlaw06.ParseAround'. -/
def parseAroundUptoCard : Claim7 := { stood := { row := parseAroundUptoRow, standIns := [], harness := (true, "dfc2f36ba9727ddcccd210baf11c1c5c49ef5e7ca696f73d1d8ba4ecff8a2126"), looks := false }, kinds := [], alts := [], laidByText := true, laidKinds := [.data, .data, .data, .pinned, .pinned], laidTests := true, laidLooks := .later }
def ParseAroundUptoCardSaid : Prop := Claim7.holds Tryz.pinned (.plain (OpenSpec.upto parseAroundSpec)) parseAroundUptoCard

/-- THE SECOND FORM's CARD OF 'lecternlaw06.ParseNests'. -/
def parseNestsUptoCard : Claim7 := { stood := { row := parseNestsUptoRow, standIns := [], harness := (true, "dfc2f36ba9727ddcccd210baf11c1c5c49ef5e7ca696f73d1d8ba4ecff8a2126"), looks := false }, kinds := [], alts := [], laidByText := true, laidKinds := [.data, .data, .data, .pinned, .pinned], laidTests := true, laidLooks := .later }
def ParseNestsUptoCardSaid : Prop := Claim7.holds Tryz.pinned (.plain (OpenSpec.upto parseNestsSpec)) parseNestsUptoCard

/-- THE SECOND FORM's CARD OF 'lecternlaw06.ParseRight'. -/
def parseRightUptoCard : Claim7 := { stood := { row := parseRightUptoRow, standIns := [], harness := (true, "dfc2f36ba9727ddcccd210baf11c1c5c49ef5e7ca696f73d1d8ba4ecff8a2126"), looks := false }, kinds := [], alts := [], laidByText := true, laidKinds := [.data, .data, .data, .pinned, .pinned], laidTests := true, laidLooks := .later }
def ParseRightUptoCardSaid : Prop := Claim7.holds Tryz.pinned (.plain (OpenSpec.upto parseRightSpec)) parseRightUptoCard
end Rows
end Go.Proofs.YtilhbalhkljanaaGreatDoor
