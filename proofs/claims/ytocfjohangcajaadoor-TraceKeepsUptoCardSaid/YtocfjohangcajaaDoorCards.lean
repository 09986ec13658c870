/-
  DERIVED. GIVEN WITH THE SEED: THE CARDS: each row of YtocfjohangcajaaDoorRows.lean that lists a variable, with what it lists TIED to the program's text (the seventh form; the later family's looks); each row that meets fmt, with fmt's text TOLD by the authors' own Lean function (tested against real Go, not proved from fmt's source: count such statements apart). THE CARD IS WHAT COUNTS. Prove the row's statement (the work); the ties are given (YtocfjohangcajaaDoorTie.lean); close each card by the builder's one call (the guide's Derived/Test/ToyasCard.lean, 'card_holds'). Laid BY PROGRAM, IN A SANDBOX (cutbox-door.mjs). By AI agents, Wed Nov 11 2026. No macro, syntax, notation, axiom, sorry.
-/
import Derived.Test.YtocfjohangcajaaDoorRows
import GoSem.ClaimSeven
namespace Go.Proofs.YtocfjohangcajaaDoor
namespace Rows

/-- THE TIED CARD OF 'lecternlaw10.TraceReads'. -/
def traceReadsCard : Claim7 := { stood := { row := traceReadsRow, standIns := [], harness := (true, "0692fdacb72af438ba7fd5c3aa319d4d0ae447e93ba928e65b1a2afccc0f6b79"), looks := true }, kinds := [], alts := [], laidByText := true, laidKinds := [.data, .data, .data, .sentinel, .sentinel], laidTests := true, laidLooks := .later }
def TraceReadsCardSaid : Prop := Claim7.holds Tryd.pinned (.plain (OpenSpec.ofChange traceReadsSpec)) traceReadsCard

/-- THE TIED CARD OF 'lecternlaw10.TraceShows'. -/
def traceShowsCard : Claim7 := { stood := { row := traceShowsRow, standIns := [], harness := (true, "0692fdacb72af438ba7fd5c3aa319d4d0ae447e93ba928e65b1a2afccc0f6b79"), looks := true }, kinds := [], alts := [], laidByText := true, laidKinds := [.data, .data, .data, .sentinel, .sentinel], laidTests := true, laidLooks := .later }
def TraceShowsCardSaid : Prop := Claim7.holds Tryd.pinned (.plain (OpenSpec.ofChange traceShowsSpec)) traceShowsCard

/-- THE TIED CARD OF 'lecternlaw10.TraceBack'. -/
def traceBackCard : Claim7 := { stood := { row := traceBackRow, standIns := [], harness := (true, "0692fdacb72af438ba7fd5c3aa319d4d0ae447e93ba928e65b1a2afccc0f6b79"), looks := true }, kinds := [], alts := [], laidByText := true, laidKinds := [.data, .data, .data, .sentinel, .sentinel], laidTests := true, laidLooks := .later }
def TraceBackCardSaid : Prop := Claim7.holds Tryd.pinned (.plain (OpenSpec.ofChange traceBackSpec)) traceBackCard

/-- THE TIED CARD OF 'lecternlaw10.TraceRounds'. -/
def traceRoundsCard : Claim7 := { stood := { row := traceRoundsRow, standIns := [], harness := (true, "0692fdacb72af438ba7fd5c3aa319d4d0ae447e93ba928e65b1a2afccc0f6b79"), looks := true }, kinds := [], alts := [], laidByText := true, laidKinds := [.data, .data, .data, .sentinel, .sentinel], laidTests := true, laidLooks := .later }
def TraceRoundsCardSaid : Prop := Claim7.holds Tryd.pinned (.plain (OpenSpec.ofChange traceRoundsSpec)) traceRoundsCard

/-- THE TIED CARD OF 'lecternlaw10.TraceBoxes'. -/
def traceBoxesCard : Claim7 := { stood := { row := traceBoxesRow, standIns := [], harness := (true, "0692fdacb72af438ba7fd5c3aa319d4d0ae447e93ba928e65b1a2afccc0f6b79"), looks := true }, kinds := [], alts := [], laidByText := true, laidKinds := [.data, .data, .data, .sentinel, .sentinel], laidTests := true, laidLooks := .later }
def TraceBoxesCardSaid : Prop := Claim7.holds Tryd.pinned (.plain (OpenSpec.ofChange traceBoxesSpec)) traceBoxesCard

/-- THE TIED CARD OF 'lecternlaw10.TraceMoves'. -/
def traceMovesCard : Claim7 := { stood := { row := traceMovesRow, standIns := [], harness := (true, "0692fdacb72af438ba7fd5c3aa319d4d0ae447e93ba928e65b1a2afccc0f6b79"), looks := true }, kinds := [], alts := [], laidByText := true, laidKinds := [.data, .data, .data, .sentinel, .sentinel], laidTests := true, laidLooks := .later }
def TraceMovesCardSaid : Prop := Claim7.holds Tryd.pinned (.plain (OpenSpec.ofChange traceMovesSpec)) traceMovesCard

/-- THE TIED CARD OF 'lecternlaw10.TraceTurns'. -/
def traceTurnsCard : Claim7 := { stood := { row := traceTurnsRow, standIns := [], harness := (true, "0692fdacb72af438ba7fd5c3aa319d4d0ae447e93ba928e65b1a2afccc0f6b79"), looks := true }, kinds := [], alts := [], laidByText := true, laidKinds := [.data, .data, .data, .sentinel, .sentinel], laidTests := true, laidLooks := .later }
def TraceTurnsCardSaid : Prop := Claim7.holds Tryd.pinned (.plain (OpenSpec.ofChange traceTurnsSpec)) traceTurnsCard

/-- THE TIED CARD OF 'lecternlaw10.TraceKeeps'. -/
def traceKeepsCard : Claim7 := { stood := { row := traceKeepsRow, standIns := [], harness := (true, "0692fdacb72af438ba7fd5c3aa319d4d0ae447e93ba928e65b1a2afccc0f6b79"), looks := true }, kinds := [], alts := [], laidByText := true, laidKinds := [.data, .data, .data, .sentinel, .sentinel], laidTests := true, laidLooks := .later }
def TraceKeepsCardSaid : Prop := Claim7.holds Tryd.pinned (.plain (OpenSpec.ofChange traceKeepsSpec)) traceKeepsCard

/-- THE SECOND FORM's CARD OF 'lecternlaw10.TraceReads'. -/
def traceReadsUptoCard : Claim7 := { stood := { row := traceReadsUptoRow, standIns := [], harness := (true, "0692fdacb72af438ba7fd5c3aa319d4d0ae447e93ba928e65b1a2afccc0f6b79"), looks := true }, kinds := [], alts := [], laidByText := true, laidKinds := [.data, .data, .data, .sentinel, .sentinel], laidTests := true, laidLooks := .later }
def TraceReadsUptoCardSaid : Prop := Claim7.holds Tryd.pinned (.plain (OpenSpec.upto traceReadsSpec)) traceReadsUptoCard

/-- THE SECOND FORM's CARD OF 'lecternlaw10.TraceShows'. -/
def traceShowsUptoCard : Claim7 := { stood := { row := traceShowsUptoRow, standIns := [], harness := (true, "0692fdacb72af438ba7fd5c3aa319d4d0ae447e93ba928e65b1a2afccc0f6b79"), looks := true }, kinds := [], alts := [], laidByText := true, laidKinds := [.data, .data, .data, .sentinel, .sentinel], laidTests := true, laidLooks := .later }
def TraceShowsUptoCardSaid : Prop := Claim7.holds Tryd.pinned (.plain (OpenSpec.upto traceShowsSpec)) traceShowsUptoCard

/-- THE SECOND FORM's CARD OF 'lecternlaw10.TraceBack'. -/
def traceBackUptoCard : Claim7 := { stood := { row := traceBackUptoRow, standIns := [], harness := (true, "0692fdacb72af438ba7fd5c3aa319d4d0ae447e93ba928e65b1a2afccc0f6b79"), looks := true }, kinds := [], alts := [], laidByText := true, laidKinds := [.data, .data, .data, .sentinel, .sentinel], laidTests := true, laidLooks := .later }
def TraceBackUptoCardSaid : Prop := Claim7.holds Tryd.pinned (.plain (OpenSpec.upto traceBackSpec)) traceBackUptoCard

/-- THE SECOND FORM's CARD OF 'lecternlaw10.TraceRounds'. -/
def traceRoundsUptoCard : Claim7 := { stood := { row := traceRoundsUptoRow, standIns := [], harness := (true, "0692fdacb72af438ba7fd5c3aa319d4d0ae447e93ba928e65b1a2afccc0f6b79"), looks := true }, kinds := [], alts := [], laidByText := true, laidKinds := [.data, .data, .data, .sentinel, .sentinel], laidTests := true, laidLooks := .later }
def TraceRoundsUptoCardSaid : Prop := Claim7.holds Tryd.pinned (.plain (OpenSpec.upto traceRoundsSpec)) traceRoundsUptoCard

/-- THE SECOND FORM's CARD OF 'lecternlaw10.TraceBoxes'. -/
def traceBoxesUptoCard : Claim7 := { stood := { row := traceBoxesUptoRow, standIns := [], harness := (true, "0692fdacb72af438ba7fd5c3aa319d4d0ae447e93ba928e65b1a2afccc0f6b79"), looks := true }, kinds := [], alts := [], laidByText := true, laidKinds := [.data, .data, .data, .sentinel, .sentinel], laidTests := true, laidLooks := .later }
def TraceBoxesUptoCardSaid : Prop := Claim7.holds Tryd.pinned (.plain (OpenSpec.upto traceBoxesSpec)) traceBoxesUptoCard

/-- THE SECOND FORM's CARD OF 'lecternlaw10.TraceMoves'. -/
def traceMovesUptoCard : Claim7 := { stood := { row := traceMovesUptoRow, standIns := [], harness := (true, "0692fdacb72af438ba7fd5c3aa319d4d0ae447e93ba928e65b1a2afccc0f6b79"), looks := true }, kinds := [], alts := [], laidByText := true, laidKinds := [.data, .data, .data, .sentinel, .sentinel], laidTests := true, laidLooks := .later }
def TraceMovesUptoCardSaid : Prop := Claim7.holds Tryd.pinned (.plain (OpenSpec.upto traceMovesSpec)) traceMovesUptoCard

/-- THE SECOND FORM's CARD OF 'lecternlaw10.TraceTurns'. -/
def traceTurnsUptoCard : Claim7 := { stood := { row := traceTurnsUptoRow, standIns := [], harness := (true, "0692fdacb72af438ba7fd5c3aa319d4d0ae447e93ba928e65b1a2afccc0f6b79"), looks := true }, kinds := [], alts := [], laidByText := true, laidKinds := [.data, .data, .data, .sentinel, .sentinel], laidTests := true, laidLooks := .later }
def TraceTurnsUptoCardSaid : Prop := Claim7.holds Tryd.pinned (.plain (OpenSpec.upto traceTurnsSpec)) traceTurnsUptoCard

/-- THE SECOND FORM's CARD OF 'lecternlaw10.TraceKeeps'. -/
def traceKeepsUptoCard : Claim7 := { stood := { row := traceKeepsUptoRow, standIns := [], harness := (true, "0692fdacb72af438ba7fd5c3aa319d4d0ae447e93ba928e65b1a2afccc0f6b79"), looks := true }, kinds := [], alts := [], laidByText := true, laidKinds := [.data, .data, .data, .sentinel, .sentinel], laidTests := true, laidLooks := .later }
def TraceKeepsUptoCardSaid : Prop := Claim7.holds Tryd.pinned (.plain (OpenSpec.upto traceKeepsSpec)) traceKeepsUptoCard
end Rows
end Go.Proofs.YtocfjohangcajaaDoor
