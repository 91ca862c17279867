/-
  DERIVED. GIVEN WITH THE SEED: THE CARDS: each row of YtbfcllpjenohlaaDoorRows.lean that lists a variable, with what it lists TIED to the program's text (the seventh form; the later family's looks); each row that meets fmt, with fmt's text TOLD by the authors' own Lean function (tested against real Go, not proved from fmt's source: count such statements apart). THE CARD IS WHAT COUNTS. Prove the row's statement (the work); the ties are given (YtbfcllpjenohlaaDoorTie.lean); close each card by the builder's one call (the guide's Derived/Test/ToyasCard.lean, 'card_holds'). Laid BY PROGRAM, IN A SANDBOX (cutbox-door.mjs). By AI agents, Wed Nov 11 2026. No macro, syntax, notation, axiom, sorry.
-/
import Derived.Test.YtbfcllpjenohlaaDoorRows
import GoSem.ClaimSeven
namespace Go.Proofs.YtbfcllpjenohlaaDoor
namespace Rows

/-- THE TIED CARD OF 'hoodwinklaw04.OrderGoes'. -/
def orderGoesCard : Claim7 := { stood := { row := orderGoesRow, standIns := [], harness := (true, "43d45bbd2d44b8a16874463778cd239064829952beeb3997fdef1608cd19a5c5"), looks := false }, kinds := [], alts := [], laidByText := true, laidKinds := [.data], laidTests := true, laidLooks := .later }
def OrderGoesCardSaid : Prop := Claim7.holds Tryd.pinned (.plain (OpenSpec.ofChange orderGoesSpec)) orderGoesCard

/-- THE TIED CARD OF 'hoodwinklaw04.OrderAll'. -/
def orderAllCard : Claim7 := { stood := { row := orderAllRow, standIns := [], harness := (true, "43d45bbd2d44b8a16874463778cd239064829952beeb3997fdef1608cd19a5c5"), looks := false }, kinds := [], alts := [], laidByText := true, laidKinds := [.data], laidTests := true, laidLooks := .later }
def OrderAllCardSaid : Prop := Claim7.holds Tryd.pinned (.plain (OpenSpec.ofChange orderAllSpec)) orderAllCard

/-- THE TIED CARD OF 'hoodwinklaw04.OrderOld'. -/
def orderOldCard : Claim7 := { stood := { row := orderOldRow, standIns := [], harness := (true, "43d45bbd2d44b8a16874463778cd239064829952beeb3997fdef1608cd19a5c5"), looks := false }, kinds := [], alts := [], laidByText := true, laidKinds := [.data], laidTests := true, laidLooks := .later }
def OrderOldCardSaid : Prop := Claim7.holds Tryd.pinned (.plain (OpenSpec.ofChange orderOldSpec)) orderOldCard

/-- THE TIED CARD OF 'hoodwinklaw04.OrderTurns'. -/
def orderTurnsCard : Claim7 := { stood := { row := orderTurnsRow, standIns := [], harness := (true, "43d45bbd2d44b8a16874463778cd239064829952beeb3997fdef1608cd19a5c5"), looks := false }, kinds := [], alts := [], laidByText := true, laidKinds := [.data], laidTests := true, laidLooks := .later }
def OrderTurnsCardSaid : Prop := Claim7.holds Tryd.pinned (.plain (OpenSpec.ofChange orderTurnsSpec)) orderTurnsCard

/-- THE TIED CARD OF 'hoodwinklaw04.OrderNotes'. -/
def orderNotesCard : Claim7 := { stood := { row := orderNotesRow, standIns := [], harness := (true, "43d45bbd2d44b8a16874463778cd239064829952beeb3997fdef1608cd19a5c5"), looks := false }, kinds := [], alts := [], laidByText := true, laidKinds := [.data], laidTests := true, laidLooks := .later }
def OrderNotesCardSaid : Prop := Claim7.holds Tryd.pinned (.plain (OpenSpec.ofChange orderNotesSpec)) orderNotesCard

/-- THE SECOND FORM's CARD OF 'hoodwinklaw04.OrderGoes'. -/
def orderGoesUptoCard : Claim7 := { stood := { row := orderGoesUptoRow, standIns := [], harness := (true, "43d45bbd2d44b8a16874463778cd239064829952beeb3997fdef1608cd19a5c5"), looks := false }, kinds := [], alts := [], laidByText := true, laidKinds := [.data], laidTests := true, laidLooks := .later }
def OrderGoesUptoCardSaid : Prop := Claim7.holds Tryd.pinned (.plain (OpenSpec.upto orderGoesSpec)) orderGoesUptoCard

/-- THE SECOND FORM's CARD OF 'hoodwinklaw04.OrderAll'. -/
def orderAllUptoCard : Claim7 := { stood := { row := orderAllUptoRow, standIns := [], harness := (true, "43d45bbd2d44b8a16874463778cd239064829952beeb3997fdef1608cd19a5c5"), looks := false }, kinds := [], alts := [], laidByText := true, laidKinds := [.data], laidTests := true, laidLooks := .later }
def OrderAllUptoCardSaid : Prop := Claim7.holds Tryd.pinned (.plain (OpenSpec.upto orderAllSpec)) orderAllUptoCard

/-- THE SECOND FORM's CARD OF 'hoodwinklaw04.OrderOld'. -/
def orderOldUptoCard : Claim7 := { stood := { row := orderOldUptoRow, standIns := [], harness := (true, "43d45bbd2d44b8a16874463778cd239064829952beeb3997fdef1608cd19a5c5"), looks := false }, kinds := [], alts := [], laidByText := true, laidKinds := [.data], laidTests := true, laidLooks := .later }
def OrderOldUptoCardSaid : Prop := Claim7.holds Tryd.pinned (.plain (OpenSpec.upto orderOldSpec)) orderOldUptoCard

/-- THE SECOND FORM's CARD OF 'hoodwinklaw04.OrderTurns'. -/
def orderTurnsUptoCard : Claim7 := { stood := { row := orderTurnsUptoRow, standIns := [], harness := (true, "43d45bbd2d44b8a16874463778cd239064829952beeb3997fdef1608cd19a5c5"), looks := false }, kinds := [], alts := [], laidByText := true, laidKinds := [.data], laidTests := true, laidLooks := .later }
def OrderTurnsUptoCardSaid : Prop := Claim7.holds Tryd.pinned (.plain (OpenSpec.upto orderTurnsSpec)) orderTurnsUptoCard

/-- THE SECOND FORM's CARD OF 'hoodwinklaw04.OrderNotes'. -/
def orderNotesUptoCard : Claim7 := { stood := { row := orderNotesUptoRow, standIns := [], harness := (true, "43d45bbd2d44b8a16874463778cd239064829952beeb3997fdef1608cd19a5c5"), looks := false }, kinds := [], alts := [], laidByText := true, laidKinds := [.data], laidTests := true, laidLooks := .later }
def OrderNotesUptoCardSaid : Prop := Claim7.holds Tryd.pinned (.plain (OpenSpec.upto orderNotesSpec)) orderNotesUptoCard
end Rows
end Go.Proofs.YtbfcllpjenohlaaDoor
