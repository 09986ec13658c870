/-
  DERIVED. GIVEN WITH THE SEED: THE CARDS: each row of YtmnbjcpikllknaaGreatDoorRows.lean that lists a variable, with what it lists TIED to the program's text (the seventh form; the later family's looks); each row that meets fmt, with fmt's text TOLD by the authors' own Lean function (tested against real Go, not proved from fmt's source: count such statements apart). THE CARD IS WHAT COUNTS. Prove the row's statement (the work); the ties are given (YtmnbjcpikllknaaGreatDoorTie.lean); close each card by the builder's one call (the guide's Derived/Test/ToyasCard.lean, 'card_holds'). Laid BY PROGRAM, IN A SANDBOX (cutbox-door.mjs). By AI agents, Wed Nov 11 2026. No macro, syntax, notation, axiom, sorry.
-/
import Derived.Test.YtmnbjcpikllknaaGreatDoorRows
import GoSem.ClaimSeven
namespace Go.Proofs.YtmnbjcpikllknaaGreatDoor
namespace Rows

/-- THE TIED CARD OF 'lecternlaw11.PickFinds'. -/
def pickFindsCard : Claim7 := { stood := { row := pickFindsRow, standIns := [], harness := (true, "faf6080e80cde6ad7030da85e2fc8df3f4e1e8c010789df1b1b695e85080c02e"), looks := true }, kinds := [], alts := [], laidByText := true, laidKinds := [.data, .data, .data, .data, .sentinel, .sentinel, .data, .data, .pinned, .pinned], laidTests := true, laidLooks := .later }
def PickFindsCardSaid : Prop := Claim7.holds Tryz.pinned (.plain (OpenSpec.ofChange pickFindsSpec)) pickFindsCard

/-- THE TIED CARD OF 'lecternlaw11.PickPlaces'. -/
def pickPlacesCard : Claim7 := { stood := { row := pickPlacesRow, standIns := [], harness := (true, "faf6080e80cde6ad7030da85e2fc8df3f4e1e8c010789df1b1b695e85080c02e"), looks := true }, kinds := [], alts := [], laidByText := true, laidKinds := [.data, .data, .data, .data, .sentinel, .sentinel, .data, .data, .pinned, .pinned], laidTests := true, laidLooks := .later }
def PickPlacesCardSaid : Prop := Claim7.holds Tryz.pinned (.plain (OpenSpec.ofChange pickPlacesSpec)) pickPlacesCard

/-- THE TIED CARD OF 'lecternlaw11.PickDeep'. -/
def pickDeepCard : Claim7 := { stood := { row := pickDeepRow, standIns := [], harness := (true, "faf6080e80cde6ad7030da85e2fc8df3f4e1e8c010789df1b1b695e85080c02e"), looks := true }, kinds := [], alts := [], laidByText := true, laidKinds := [.data, .data, .data, .data, .sentinel, .sentinel, .data, .data, .pinned, .pinned], laidTests := true, laidLooks := .later }
def PickDeepCardSaid : Prop := Claim7.holds Tryz.pinned (.plain (OpenSpec.ofChange pickDeepSpec)) pickDeepCard

/-- THE TIED CARD OF 'lecternlaw11.PickAttrs'. -/
def pickAttrsCard : Claim7 := { stood := { row := pickAttrsRow, standIns := [], harness := (true, "faf6080e80cde6ad7030da85e2fc8df3f4e1e8c010789df1b1b695e85080c02e"), looks := true }, kinds := [], alts := [], laidByText := true, laidKinds := [.data, .data, .data, .data, .sentinel, .sentinel, .data, .data, .pinned, .pinned], laidTests := true, laidLooks := .later }
def PickAttrsCardSaid : Prop := Claim7.holds Tryz.pinned (.plain (OpenSpec.ofChange pickAttrsSpec)) pickAttrsCard

/-- THE TIED CARD OF 'lecternlaw11.PickKeeps'. -/
def pickKeepsCard : Claim7 := { stood := { row := pickKeepsRow, standIns := [], harness := (true, "faf6080e80cde6ad7030da85e2fc8df3f4e1e8c010789df1b1b695e85080c02e"), looks := true }, kinds := [], alts := [], laidByText := true, laidKinds := [.data, .data, .data, .data, .sentinel, .sentinel, .data, .data, .pinned, .pinned], laidTests := true, laidLooks := .later }
def PickKeepsCardSaid : Prop := Claim7.holds Tryz.pinned (.plain (OpenSpec.ofChange pickKeepsSpec)) pickKeepsCard

/-- THE TIED CARD OF 'lecternlaw11.PickStands'. -/
def pickStandsCard : Claim7 := { stood := { row := pickStandsRow, standIns := [], harness := (true, "faf6080e80cde6ad7030da85e2fc8df3f4e1e8c010789df1b1b695e85080c02e"), looks := true }, kinds := [], alts := [], laidByText := true, laidKinds := [.data, .data, .data, .data, .sentinel, .sentinel, .data, .data, .pinned, .pinned], laidTests := true, laidLooks := .later }
def PickStandsCardSaid : Prop := Claim7.holds Tryz.pinned (.plain (OpenSpec.ofChange pickStandsSpec)) pickStandsCard

/-- THE TIED CARD OF 'lecternlaw11.PickNarrows'. -/
def pickNarrowsCard : Claim7 := { stood := { row := pickNarrowsRow, standIns := [], harness := (true, "faf6080e80cde6ad7030da85e2fc8df3f4e1e8c010789df1b1b695e85080c02e"), looks := true }, kinds := [], alts := [], laidByText := true, laidKinds := [.data, .data, .data, .data, .sentinel, .sentinel, .data, .data, .pinned, .pinned], laidTests := true, laidLooks := .later }
def PickNarrowsCardSaid : Prop := Claim7.holds Tryz.pinned (.plain (OpenSpec.ofChange pickNarrowsSpec)) pickNarrowsCard

/-- THE SECOND FORM's CARD OF 'lecternlaw11.PickFinds'. -/
def pickFindsUptoCard : Claim7 := { stood := { row := pickFindsUptoRow, standIns := [], harness := (true, "faf6080e80cde6ad7030da85e2fc8df3f4e1e8c010789df1b1b695e85080c02e"), looks := true }, kinds := [], alts := [], laidByText := true, laidKinds := [.data, .data, .data, .data, .sentinel, .sentinel, .data, .data, .pinned, .pinned], laidTests := true, laidLooks := .later }
def PickFindsUptoCardSaid : Prop := Claim7.holds Tryz.pinned (.plain (OpenSpec.upto pickFindsSpec)) pickFindsUptoCard

/-- THE SECOND FORM's CARD OF 'lecternlaw11.PickPlaces'. -/
def pickPlacesUptoCard : Claim7 := { stood := { row := pickPlacesUptoRow, standIns := [], harness := (true, "faf6080e80cde6ad7030da85e2fc8df3f4e1e8c010789df1b1b695e85080c02e"), looks := true }, kinds := [], alts := [], laidByText := true, laidKinds := [.data, .data, .data, .data, .sentinel, .sentinel, .data, .data, .pinned, .pinned], laidTests := true, laidLooks := .later }
def PickPlacesUptoCardSaid : Prop := Claim7.holds Tryz.pinned (.plain (OpenSpec.upto pickPlacesSpec)) pickPlacesUptoCard

/-- THE SECOND FORM's CARD OF 'lecternlaw11.PickDeep'. -/
def pickDeepUptoCard : Claim7 := { stood := { row := pickDeepUptoRow, standIns := [], harness := (true, "faf6080e80cde6ad7030da85e2fc8df3f4e1e8c010789df1b1b695e85080c02e"), looks := true }, kinds := [], alts := [], laidByText := true, laidKinds := [.data, .data, .data, .data, .sentinel, .sentinel, .data, .data, .pinned, .pinned], laidTests := true, laidLooks := .later }
def PickDeepUptoCardSaid : Prop := Claim7.holds Tryz.pinned (.plain (OpenSpec.upto pickDeepSpec)) pickDeepUptoCard

/-- THE SECOND FORM's CARD OF 'lecternlaw11.PickAttrs'. -/
def pickAttrsUptoCard : Claim7 := { stood := { row := pickAttrsUptoRow, standIns := [], harness := (true, "faf6080e80cde6ad7030da85e2fc8df3f4e1e8c010789df1b1b695e85080c02e"), looks := true }, kinds := [], alts := [], laidByText := true, laidKinds := [.data, .data, .data, .data, .sentinel, .sentinel, .data, .data, .pinned, .pinned], laidTests := true, laidLooks := .later }
def PickAttrsUptoCardSaid : Prop := Claim7.holds Tryz.pinned (.plain (OpenSpec.upto pickAttrsSpec)) pickAttrsUptoCard

/-- THE SECOND FORM's CARD OF 'lecternlaw11.PickKeeps'. -/
def pickKeepsUptoCard : Claim7 := { stood := { row := pickKeepsUptoRow, standIns := [], harness := (true, "faf6080e80cde6ad7030da85e2fc8df3f4e1e8c010789df1b1b695e85080c02e"), looks := true }, kinds := [], alts := [], laidByText := true, laidKinds := [.data, .data, .data, .data, .sentinel, .sentinel, .data, .data, .pinned, .pinned], laidTests := true, laidLooks := .later }
def PickKeepsUptoCardSaid : Prop := Claim7.holds Tryz.pinned (.plain (OpenSpec.upto pickKeepsSpec)) pickKeepsUptoCard

/-- THE SECOND FORM's CARD OF 'lecternlaw11.PickStands'. -/
def pickStandsUptoCard : Claim7 := { stood := { row := pickStandsUptoRow, standIns := [], harness := (true, "faf6080e80cde6ad7030da85e2fc8df3f4e1e8c010789df1b1b695e85080c02e"), looks := true }, kinds := [], alts := [], laidByText := true, laidKinds := [.data, .data, .data, .data, .sentinel, .sentinel, .data, .data, .pinned, .pinned], laidTests := true, laidLooks := .later }
def PickStandsUptoCardSaid : Prop := Claim7.holds Tryz.pinned (.plain (OpenSpec.upto pickStandsSpec)) pickStandsUptoCard

/-- THE SECOND FORM's CARD OF 'lecternlaw11.PickNarrows'. -/
def pickNarrowsUptoCard : Claim7 := { stood := { row := pickNarrowsUptoRow, standIns := [], harness := (true, "faf6080e80cde6ad7030da85e2fc8df3f4e1e8c010789df1b1b695e85080c02e"), looks := true }, kinds := [], alts := [], laidByText := true, laidKinds := [.data, .data, .data, .data, .sentinel, .sentinel, .data, .data, .pinned, .pinned], laidTests := true, laidLooks := .later }
def PickNarrowsUptoCardSaid : Prop := Claim7.holds Tryz.pinned (.plain (OpenSpec.upto pickNarrowsSpec)) pickNarrowsUptoCard
end Rows
end Go.Proofs.YtmnbjcpikllknaaGreatDoor
