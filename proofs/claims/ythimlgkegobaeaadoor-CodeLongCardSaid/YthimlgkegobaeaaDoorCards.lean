/-
  DERIVED. GIVEN WITH THE SEED: THE CARDS: each row of YthimlgkegobaeaaDoorRows.lean that lists a variable, with what it lists TIED to the program's text (the seventh form; the later family's looks); each row that meets fmt, with fmt's text TOLD by the authors' own Lean function (tested against real Go, not proved from fmt's source: count such statements apart). THE CARD IS WHAT COUNTS. Prove the row's statement (the work); the ties are given (YthimlgkegobaeaaDoorTie.lean); close each card by the builder's one call (the guide's Derived/Test/ToyasCard.lean, 'card_holds'). Laid BY PROGRAM, IN A SANDBOX (cutbox-door.mjs). By AI agents, Wed Nov 11 2026. No macro, syntax, notation, axiom, sorry.
-/
import Derived.Test.YthimlgkegobaeaaDoorRows
import GoSem.ClaimSeven
namespace Go.Proofs.YthimlgkegobaeaaDoor
namespace Rows

/-- THE TIED CARD OF 'hoodwinklaw08.CodeTurns'. -/
def codeTurnsCard : Claim7 := { stood := { row := codeTurnsRow, standIns := [], harness := (true, "f2da6f55254c92989b78dfba25fa8a553d918b6dfc9cb08901657ddee712eee5"), looks := true }, kinds := [], alts := [], laidByText := true, laidKinds := [.data, .data, .data, .listed, .data], laidTests := true, laidLooks := .later }
def CodeTurnsCardSaid : Prop := Claim7.holds Tryd.pinned (.plain (OpenSpec.ofChange codeTurnsSpec)) codeTurnsCard

/-- THE TIED CARD OF 'hoodwinklaw08.CodeOthers'. -/
def codeOthersCard : Claim7 := { stood := { row := codeOthersRow, standIns := [], harness := (true, "f2da6f55254c92989b78dfba25fa8a553d918b6dfc9cb08901657ddee712eee5"), looks := true }, kinds := [], alts := [], laidByText := true, laidKinds := [.data, .data, .data, .listed, .data], laidTests := true, laidLooks := .later }
def CodeOthersCardSaid : Prop := Claim7.holds Tryd.pinned (.plain (OpenSpec.ofChange codeOthersSpec)) codeOthersCard

/-- THE TIED CARD OF 'hoodwinklaw08.CodeChecks'. -/
def codeChecksCard : Claim7 := { stood := { row := codeChecksRow, standIns := [], harness := (true, "f2da6f55254c92989b78dfba25fa8a553d918b6dfc9cb08901657ddee712eee5"), looks := true }, kinds := [], alts := [], laidByText := true, laidKinds := [.data, .data, .data, .listed, .data], laidTests := true, laidLooks := .later }
def CodeChecksCardSaid : Prop := Claim7.holds Tryd.pinned (.plain (OpenSpec.ofChange codeChecksSpec)) codeChecksCard

/-- THE TIED CARD OF 'hoodwinklaw08.CodeLong'. -/
def codeLongCard : Claim7 := { stood := { row := codeLongRow, standIns := [], harness := (true, "f2da6f55254c92989b78dfba25fa8a553d918b6dfc9cb08901657ddee712eee5"), looks := true }, kinds := [], alts := [], laidByText := true, laidKinds := [.data, .data, .data, .listed, .data], laidTests := true, laidLooks := .later }
def CodeLongCardSaid : Prop := Claim7.holds Tryd.pinned (.plain (OpenSpec.ofChange codeLongSpec)) codeLongCard

/-- THE TIED CARD OF 'hoodwinklaw08.CodeForms'. -/
def codeFormsCard : Claim7 := { stood := { row := codeFormsRow, standIns := [], harness := (true, "f2da6f55254c92989b78dfba25fa8a553d918b6dfc9cb08901657ddee712eee5"), looks := true }, kinds := [], alts := [], laidByText := true, laidKinds := [.data, .data, .data, .listed, .data], laidTests := true, laidLooks := .later }
def CodeFormsCardSaid : Prop := Claim7.holds Tryd.pinned (.plain (OpenSpec.ofChange codeFormsSpec)) codeFormsCard

/-- THE TIED CARD OF 'hoodwinklaw08.CodeReads'. -/
def codeReadsCard : Claim7 := { stood := { row := codeReadsRow, standIns := [], harness := (true, "f2da6f55254c92989b78dfba25fa8a553d918b6dfc9cb08901657ddee712eee5"), looks := true }, kinds := [], alts := [], laidByText := true, laidKinds := [.data, .data, .data, .data, .sentinel, .sentinel, .listed, .data, .pinned], laidTests := true, laidLooks := .later }
def CodeReadsCardSaid : Prop := Claim7.holds Tryd.pinned (.plain (OpenSpec.ofChange codeReadsSpec)) codeReadsCard

/-- THE TIED CARD OF 'hoodwinklaw08.CodeLines'. -/
def codeLinesCard : Claim7 := { stood := { row := codeLinesRow, standIns := [], harness := (true, "f2da6f55254c92989b78dfba25fa8a553d918b6dfc9cb08901657ddee712eee5"), looks := true }, kinds := [], alts := [], laidByText := true, laidKinds := [.data, .data, .data, .data, .sentinel, .sentinel, .listed, .data, .pinned], laidTests := true, laidLooks := .later }
def CodeLinesCardSaid : Prop := Claim7.holds Tryd.pinned (.plain (OpenSpec.ofChange codeLinesSpec)) codeLinesCard

/-- THE SECOND FORM's CARD OF 'hoodwinklaw08.CodeTurns'. -/
def codeTurnsUptoCard : Claim7 := { stood := { row := codeTurnsUptoRow, standIns := [], harness := (true, "f2da6f55254c92989b78dfba25fa8a553d918b6dfc9cb08901657ddee712eee5"), looks := true }, kinds := [], alts := [], laidByText := true, laidKinds := [.data, .data, .data, .listed, .data], laidTests := true, laidLooks := .later }
def CodeTurnsUptoCardSaid : Prop := Claim7.holds Tryd.pinned (.plain (OpenSpec.upto codeTurnsSpec)) codeTurnsUptoCard

/-- THE SECOND FORM's CARD OF 'hoodwinklaw08.CodeOthers'. -/
def codeOthersUptoCard : Claim7 := { stood := { row := codeOthersUptoRow, standIns := [], harness := (true, "f2da6f55254c92989b78dfba25fa8a553d918b6dfc9cb08901657ddee712eee5"), looks := true }, kinds := [], alts := [], laidByText := true, laidKinds := [.data, .data, .data, .listed, .data], laidTests := true, laidLooks := .later }
def CodeOthersUptoCardSaid : Prop := Claim7.holds Tryd.pinned (.plain (OpenSpec.upto codeOthersSpec)) codeOthersUptoCard

/-- THE SECOND FORM's CARD OF 'hoodwinklaw08.CodeChecks'. -/
def codeChecksUptoCard : Claim7 := { stood := { row := codeChecksUptoRow, standIns := [], harness := (true, "f2da6f55254c92989b78dfba25fa8a553d918b6dfc9cb08901657ddee712eee5"), looks := true }, kinds := [], alts := [], laidByText := true, laidKinds := [.data, .data, .data, .listed, .data], laidTests := true, laidLooks := .later }
def CodeChecksUptoCardSaid : Prop := Claim7.holds Tryd.pinned (.plain (OpenSpec.upto codeChecksSpec)) codeChecksUptoCard

/-- THE SECOND FORM's CARD OF 'hoodwinklaw08.CodeLong'. -/
def codeLongUptoCard : Claim7 := { stood := { row := codeLongUptoRow, standIns := [], harness := (true, "f2da6f55254c92989b78dfba25fa8a553d918b6dfc9cb08901657ddee712eee5"), looks := true }, kinds := [], alts := [], laidByText := true, laidKinds := [.data, .data, .data, .listed, .data], laidTests := true, laidLooks := .later }
def CodeLongUptoCardSaid : Prop := Claim7.holds Tryd.pinned (.plain (OpenSpec.upto codeLongSpec)) codeLongUptoCard

/-- THE SECOND FORM's CARD OF 'hoodwinklaw08.CodeForms'. -/
def codeFormsUptoCard : Claim7 := { stood := { row := codeFormsUptoRow, standIns := [], harness := (true, "f2da6f55254c92989b78dfba25fa8a553d918b6dfc9cb08901657ddee712eee5"), looks := true }, kinds := [], alts := [], laidByText := true, laidKinds := [.data, .data, .data, .listed, .data], laidTests := true, laidLooks := .later }
def CodeFormsUptoCardSaid : Prop := Claim7.holds Tryd.pinned (.plain (OpenSpec.upto codeFormsSpec)) codeFormsUptoCard

/-- THE SECOND FORM's CARD OF 'hoodwinklaw08.CodeReads'. -/
def codeReadsUptoCard : Claim7 := { stood := { row := codeReadsUptoRow, standIns := [], harness := (true, "f2da6f55254c92989b78dfba25fa8a553d918b6dfc9cb08901657ddee712eee5"), looks := true }, kinds := [], alts := [], laidByText := true, laidKinds := [.data, .data, .data, .data, .sentinel, .sentinel, .listed, .data, .pinned], laidTests := true, laidLooks := .later }
def CodeReadsUptoCardSaid : Prop := Claim7.holds Tryd.pinned (.plain (OpenSpec.upto codeReadsSpec)) codeReadsUptoCard

/-- THE SECOND FORM's CARD OF 'hoodwinklaw08.CodeLines'. -/
def codeLinesUptoCard : Claim7 := { stood := { row := codeLinesUptoRow, standIns := [], harness := (true, "f2da6f55254c92989b78dfba25fa8a553d918b6dfc9cb08901657ddee712eee5"), looks := true }, kinds := [], alts := [], laidByText := true, laidKinds := [.data, .data, .data, .data, .sentinel, .sentinel, .listed, .data, .pinned], laidTests := true, laidLooks := .later }
def CodeLinesUptoCardSaid : Prop := Claim7.holds Tryd.pinned (.plain (OpenSpec.upto codeLinesSpec)) codeLinesUptoCard
end Rows
end Go.Proofs.YthimlgkegobaeaaDoor
