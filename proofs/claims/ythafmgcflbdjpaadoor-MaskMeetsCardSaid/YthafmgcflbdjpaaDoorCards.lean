/-
  DERIVED. GIVEN WITH THE SEED: THE CARDS: each row of YthafmgcflbdjpaaDoorRows.lean that lists a variable, with what it lists TIED to the program's text (the seventh form; the later family's looks); each row that meets fmt, with fmt's text TOLD by the authors' own Lean function (tested against real Go, not proved from fmt's source: count such statements apart). THE CARD IS WHAT COUNTS. Prove the row's statement (the work); the ties are given (YthafmgcflbdjpaaDoorTie.lean); close each card by the builder's one call (the guide's Derived/Test/ToyasCard.lean, 'card_holds'). Laid BY PROGRAM, IN A SANDBOX (cutbox-door.mjs). By AI agents, Wed Nov 11 2026. No macro, syntax, notation, axiom, sorry.
-/
import Derived.Test.YthafmgcflbdjpaaDoorRows
import GoSem.ClaimSeven
namespace Go.Proofs.YthafmgcflbdjpaaDoor
namespace Rows

/-- THE TIED CARD OF 'hoodwinklaw05.MaskTells'. -/
def maskTellsCard : Claim7 := { stood := { row := maskTellsRow, standIns := [], harness := (true, "fd3951be522c8ebc5a0962bc08e1c1e3a303bc3059ea5da0dca38b9eb58ac09e"), looks := false }, kinds := [], alts := [], laidByText := true, laidKinds := [.data, .data, .data], laidTests := true, laidLooks := .later }
def MaskTellsCardSaid : Prop := Claim7.holds Tryd.pinned (.plain (OpenSpec.ofChange maskTellsSpec)) maskTellsCard

/-- THE TIED CARD OF 'hoodwinklaw05.MaskAlls'. -/
def maskAllsCard : Claim7 := { stood := { row := maskAllsRow, standIns := [], harness := (true, "fd3951be522c8ebc5a0962bc08e1c1e3a303bc3059ea5da0dca38b9eb58ac09e"), looks := false }, kinds := [], alts := [], laidByText := true, laidKinds := [.data, .data, .data], laidTests := true, laidLooks := .later }
def MaskAllsCardSaid : Prop := Claim7.holds Tryd.pinned (.plain (OpenSpec.ofChange maskAllsSpec)) maskAllsCard

/-- THE TIED CARD OF 'hoodwinklaw05.MaskMeets'. -/
def maskMeetsCard : Claim7 := { stood := { row := maskMeetsRow, standIns := [], harness := (true, "fd3951be522c8ebc5a0962bc08e1c1e3a303bc3059ea5da0dca38b9eb58ac09e"), looks := false }, kinds := [], alts := [], laidByText := true, laidKinds := [.data, .data, .data], laidTests := true, laidLooks := .later }
def MaskMeetsCardSaid : Prop := Claim7.holds Tryd.pinned (.plain (OpenSpec.ofChange maskMeetsSpec)) maskMeetsCard

/-- THE TIED CARD OF 'hoodwinklaw05.MaskLaws'. -/
def maskLawsCard : Claim7 := { stood := { row := maskLawsRow, standIns := [], harness := (true, "fd3951be522c8ebc5a0962bc08e1c1e3a303bc3059ea5da0dca38b9eb58ac09e"), looks := false }, kinds := [], alts := [], laidByText := true, laidKinds := [.data, .data, .data], laidTests := true, laidLooks := .later }
def MaskLawsCardSaid : Prop := Claim7.holds Tryd.pinned (.plain (OpenSpec.ofChange maskLawsSpec)) maskLawsCard

/-- THE SECOND FORM's CARD OF 'hoodwinklaw05.MaskTells'. -/
def maskTellsUptoCard : Claim7 := { stood := { row := maskTellsUptoRow, standIns := [], harness := (true, "fd3951be522c8ebc5a0962bc08e1c1e3a303bc3059ea5da0dca38b9eb58ac09e"), looks := false }, kinds := [], alts := [], laidByText := true, laidKinds := [.data, .data, .data], laidTests := true, laidLooks := .later }
def MaskTellsUptoCardSaid : Prop := Claim7.holds Tryd.pinned (.plain (OpenSpec.upto maskTellsSpec)) maskTellsUptoCard

/-- THE SECOND FORM's CARD OF 'hoodwinklaw05.MaskAlls'. -/
def maskAllsUptoCard : Claim7 := { stood := { row := maskAllsUptoRow, standIns := [], harness := (true, "fd3951be522c8ebc5a0962bc08e1c1e3a303bc3059ea5da0dca38b9eb58ac09e"), looks := false }, kinds := [], alts := [], laidByText := true, laidKinds := [.data, .data, .data], laidTests := true, laidLooks := .later }
def MaskAllsUptoCardSaid : Prop := Claim7.holds Tryd.pinned (.plain (OpenSpec.upto maskAllsSpec)) maskAllsUptoCard

/-- THE SECOND FORM's CARD OF 'hoodwinklaw05.MaskMeets'. -/
def maskMeetsUptoCard : Claim7 := { stood := { row := maskMeetsUptoRow, standIns := [], harness := (true, "fd3951be522c8ebc5a0962bc08e1c1e3a303bc3059ea5da0dca38b9eb58ac09e"), looks := false }, kinds := [], alts := [], laidByText := true, laidKinds := [.data, .data, .data], laidTests := true, laidLooks := .later }
def MaskMeetsUptoCardSaid : Prop := Claim7.holds Tryd.pinned (.plain (OpenSpec.upto maskMeetsSpec)) maskMeetsUptoCard

/-- THE SECOND FORM's CARD OF 'hoodwinklaw05.MaskLaws'. -/
def maskLawsUptoCard : Claim7 := { stood := { row := maskLawsUptoRow, standIns := [], harness := (true, "fd3951be522c8ebc5a0962bc08e1c1e3a303bc3059ea5da0dca38b9eb58ac09e"), looks := false }, kinds := [], alts := [], laidByText := true, laidKinds := [.data, .data, .data], laidTests := true, laidLooks := .later }
def MaskLawsUptoCardSaid : Prop := Claim7.holds Tryd.pinned (.plain (OpenSpec.upto maskLawsSpec)) maskLawsUptoCard
end Rows
end Go.Proofs.YthafmgcflbdjpaaDoor
