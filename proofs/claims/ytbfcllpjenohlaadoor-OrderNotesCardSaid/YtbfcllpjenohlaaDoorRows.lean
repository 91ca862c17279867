/-
  NARROWER THAN 'FOR EVERY INPUT', by the rows' own cells (each row's printed sentence says how): OrderGoes: laid · OrderAll: laid · OrderOld: laid · OrderTurns: laid · OrderNotes: laid.
  DERIVED. THE GIVEN ROWS OF THIS SEAT. 5 by the template 'for every input the law returns true; each argument reads behind the call as it read before'; 0 by the template 'total and deterministic' (their statements: YtbfcllpjenohlaaDoorTotals.lean).
  GIVEN WITH THE SEED: the statements are not yours to turn. If you find one false, say at which input.
  Laid BY PROGRAM, IN A SANDBOX (cutbox-rows.mjs): the forced cells as the released guide's own fill.sh prints them over the translation fad5c27db636d0f9… (all of the seat's roots in one cut). By AI agents, Wed Nov 11 2026. No macro, syntax, notation, axiom, sorry.
-/
import Derived.Test.YtbfcllpjenohlaaDoorChecked
import GoSem.Claim
import GoSem.ClaimJoined
import GoSem.ClaimMapViews
import Derived.JoinedTies
import Derived.KernelRfl
namespace Go.Proofs.YtbfcllpjenohlaaDoor
/- THE CELL 'sum', in the pinned program and in every row, IS THE sha256 OF THE DUMP (.gsa) THAT YtbfcllpjenohlaaDoorProg.lean LOADS. Nothing in Lean hashes anything: it is a label: what it is worth is what the hold of that sum in a sandbox is worth. -/
noncomputable def Tryd.pinned : Pinned := { name := "ytbfcllpjenohlaadoor", sum := "fad5c27db636d0f935d379398dd0986f9603ad4259d61ab785ec3d47b8587d98", checked := Tryd.checked }
namespace Rows
def none {H : Type} : Left H := { results := [], args := [] }

/- WHAT THE LISTED PACKAGE-LEVEL VARIABLES READ AS WHEN THE CALL BEGINS. Each datum BY PROGRAM (the guide's laid-datum.mjs) off the statement by which the dump's own 'gosem.cut.vars' lays the variable. In a bare row this is a premise. The card (YtbfcllpjenohlaaDoorCards.lean) ties it to the program's text. -/
def laid_math_bits_deBruijn32tab {H : Type} : DataW H := .agg [.lit (.int .u8 0), .lit (.int .u8 1), .lit (.int .u8 28), .lit (.int .u8 2), .lit (.int .u8 29), .lit (.int .u8 14), .lit (.int .u8 24), .lit (.int .u8 3), .lit (.int .u8 30), .lit (.int .u8 22), .lit (.int .u8 20), .lit (.int .u8 15), .lit (.int .u8 25), .lit (.int .u8 17), .lit (.int .u8 4), .lit (.int .u8 8), .lit (.int .u8 31), .lit (.int .u8 27), .lit (.int .u8 13), .lit (.int .u8 23), .lit (.int .u8 21), .lit (.int .u8 19), .lit (.int .u8 16), .lit (.int .u8 7), .lit (.int .u8 26), .lit (.int .u8 12), .lit (.int .u8 18), .lit (.int .u8 6), .lit (.int .u8 11), .lit (.int .u8 5), .lit (.int .u8 10), .lit (.int .u8 9)]

/-- 'hoodwinklaw04.OrderGoes': WHATEVER THE INPUT: true; the input reads as it did. -/
def orderGoesSpec : ChangeSpec := { name := "orderGoes", fn := fun _ => fun
  | [d1, d2, d3] => { results := [.lit (.bool true)], args := [d1, d2, d3] }
  | _ => none }
def orderGoesRow : OpenClaim := { program := "ytbfcllpjenohlaadoor", sum := "fad5c27db636d0f935d379398dd0986f9603ad4259d61ab785ec3d47b8587d98", func := "hoodwink/hoodwinklaw04.OrderGoes", spec := "orderGoes", named := ["math/bits.deBruijn32tab"], apart := false, laid := [("math/bits.deBruijn32tab", laid_math_bits_deBruijn32tab)] }
def OrderGoesSaid : Prop := orderGoesRow.holds Tryd.pinned (OpenSpec.ofChange orderGoesSpec)

/-- ITS FALSE NEIGHBOUR: 'it returns false'. Refute it at one input. -/
def orderGoesWrong : ChangeSpec := { name := "orderGoes", fn := fun _ => fun
  | [d1, d2, d3] => { results := [.lit (.bool false)], args := [d1, d2, d3] }
  | _ => none }
def OrderGoesWrongFalsely : Prop := orderGoesRow.holds Tryd.pinned (OpenSpec.ofChange orderGoesWrong)

/-- 'hoodwinklaw04.OrderAll': WHATEVER THE INPUT: true; the input reads as it did. -/
def orderAllSpec : ChangeSpec := { name := "orderAll", fn := fun _ => fun
  | [d1, d2] => { results := [.lit (.bool true)], args := [d1, d2] }
  | _ => none }
def orderAllRow : OpenClaim := { program := "ytbfcllpjenohlaadoor", sum := "fad5c27db636d0f935d379398dd0986f9603ad4259d61ab785ec3d47b8587d98", func := "hoodwink/hoodwinklaw04.OrderAll", spec := "orderAll", named := ["math/bits.deBruijn32tab"], apart := false, laid := [("math/bits.deBruijn32tab", laid_math_bits_deBruijn32tab)] }
def OrderAllSaid : Prop := orderAllRow.holds Tryd.pinned (OpenSpec.ofChange orderAllSpec)

/-- ITS FALSE NEIGHBOUR: 'it returns false'. Refute it at one input. -/
def orderAllWrong : ChangeSpec := { name := "orderAll", fn := fun _ => fun
  | [d1, d2] => { results := [.lit (.bool false)], args := [d1, d2] }
  | _ => none }
def OrderAllWrongFalsely : Prop := orderAllRow.holds Tryd.pinned (OpenSpec.ofChange orderAllWrong)

/-- 'hoodwinklaw04.OrderOld': WHATEVER THE INPUT: true; the input reads as it did. -/
def orderOldSpec : ChangeSpec := { name := "orderOld", fn := fun _ => fun
  | [d1, d2, d3, d4] => { results := [.lit (.bool true)], args := [d1, d2, d3, d4] }
  | _ => none }
def orderOldRow : OpenClaim := { program := "ytbfcllpjenohlaadoor", sum := "fad5c27db636d0f935d379398dd0986f9603ad4259d61ab785ec3d47b8587d98", func := "hoodwink/hoodwinklaw04.OrderOld", spec := "orderOld", named := ["math/bits.deBruijn32tab"], apart := false, laid := [("math/bits.deBruijn32tab", laid_math_bits_deBruijn32tab)] }
def OrderOldSaid : Prop := orderOldRow.holds Tryd.pinned (OpenSpec.ofChange orderOldSpec)

/-- ITS FALSE NEIGHBOUR: 'it returns false'. Refute it at one input. -/
def orderOldWrong : ChangeSpec := { name := "orderOld", fn := fun _ => fun
  | [d1, d2, d3, d4] => { results := [.lit (.bool false)], args := [d1, d2, d3, d4] }
  | _ => none }
def OrderOldWrongFalsely : Prop := orderOldRow.holds Tryd.pinned (OpenSpec.ofChange orderOldWrong)

/-- 'hoodwinklaw04.OrderTurns': WHATEVER THE INPUT: true; the input reads as it did. -/
def orderTurnsSpec : ChangeSpec := { name := "orderTurns", fn := fun _ => fun
  | [d1, d2, d3] => { results := [.lit (.bool true)], args := [d1, d2, d3] }
  | _ => none }
def orderTurnsRow : OpenClaim := { program := "ytbfcllpjenohlaadoor", sum := "fad5c27db636d0f935d379398dd0986f9603ad4259d61ab785ec3d47b8587d98", func := "hoodwink/hoodwinklaw04.OrderTurns", spec := "orderTurns", named := ["math/bits.deBruijn32tab"], apart := false, laid := [("math/bits.deBruijn32tab", laid_math_bits_deBruijn32tab)] }
def OrderTurnsSaid : Prop := orderTurnsRow.holds Tryd.pinned (OpenSpec.ofChange orderTurnsSpec)

/-- ITS FALSE NEIGHBOUR: 'it returns false'. Refute it at one input. -/
def orderTurnsWrong : ChangeSpec := { name := "orderTurns", fn := fun _ => fun
  | [d1, d2, d3] => { results := [.lit (.bool false)], args := [d1, d2, d3] }
  | _ => none }
def OrderTurnsWrongFalsely : Prop := orderTurnsRow.holds Tryd.pinned (OpenSpec.ofChange orderTurnsWrong)

/-- 'hoodwinklaw04.OrderNotes': WHATEVER THE INPUT: true; the input reads as it did. -/
def orderNotesSpec : ChangeSpec := { name := "orderNotes", fn := fun _ => fun
  | [d1, d2, d3, d4] => { results := [.lit (.bool true)], args := [d1, d2, d3, d4] }
  | _ => none }
def orderNotesRow : OpenClaim := { program := "ytbfcllpjenohlaadoor", sum := "fad5c27db636d0f935d379398dd0986f9603ad4259d61ab785ec3d47b8587d98", func := "hoodwink/hoodwinklaw04.OrderNotes", spec := "orderNotes", named := ["math/bits.deBruijn32tab"], apart := false, laid := [("math/bits.deBruijn32tab", laid_math_bits_deBruijn32tab)] }
def OrderNotesSaid : Prop := orderNotesRow.holds Tryd.pinned (OpenSpec.ofChange orderNotesSpec)

/-- ITS FALSE NEIGHBOUR: 'it returns false'. Refute it at one input. -/
def orderNotesWrong : ChangeSpec := { name := "orderNotes", fn := fun _ => fun
  | [d1, d2, d3, d4] => { results := [.lit (.bool false)], args := [d1, d2, d3, d4] }
  | _ => none }
def OrderNotesWrongFalsely : Prop := orderNotesRow.holds Tryd.pinned (OpenSpec.ofChange orderNotesWrong)

/- THE SECOND FORM. 'bulk': how many values and letters a reading holds, each counted each time it is reached (what is shared counts as often as it is met; a slice's spare places count too). A statement '..UptoSaid' is the law's where the arguments, and the package variables that the reading takes, are together of bulk at most 1048576: NARROWER than '..Said'. Prove '..Said' where nothing that the law and all that it calls make is longer than what came in: it says more and counts as full. Else prove '..UptoSaid'. A law counts once. -/
mutual
def uptoBulk {H : Type} : DataW H → Nat
  | .lit (.string bytes) => bytes.length + 1
  | .lit _ => 1
  | .nil => 1
  | .ptr d => uptoBulk d + 1
  | .slice elems spare => uptoBulkAll elems + uptoBulkAll spare + 1
  | .agg parts => uptoBulkAll parts + 1
  | .iface _ d => uptoBulk d + 1
  | .map entries => uptoBulkEntries entries + 1
  | .held _ => 1
def uptoBulkAll {H : Type} : List (DataW H) → Nat
  | [] => 0
  | d :: r => uptoBulk d + uptoBulkAll r
def uptoBulkEntries {H : Type} : List (Lit × DataW H) → Nat
  | [] => 0
  | x :: r => uptoBulkEntry x + uptoBulkEntries r
def uptoBulkEntry {H : Type} : Lit × DataW H → Nat
  | (.string bytes, d) => bytes.length + uptoBulk d + 1
  | (_, d) => uptoBulk d + 1
 end
def uptoSmall : (H : Type) → List (DataW H) → Bool := fun _ ds => decide (uptoBulkAll ds ≤ 1048576)
def OpenSpec.upto (s : _root_.Go.ChangeSpec) : _root_.Go.OpenSpec := { _root_.Go.OpenSpec.ofChange s with cond := some uptoSmall }

/-- 'hoodwinklaw04.OrderGoes', WHERE WHAT IT READS IS OF BULK AT MOST 1048576: true; the input reads as it did. -/
def orderGoesUptoRow : OpenClaim := { program := "ytbfcllpjenohlaadoor", sum := "fad5c27db636d0f935d379398dd0986f9603ad4259d61ab785ec3d47b8587d98", func := "hoodwink/hoodwinklaw04.OrderGoes", spec := "orderGoes", named := ["math/bits.deBruijn32tab"], apart := false, laid := [("math/bits.deBruijn32tab", laid_math_bits_deBruijn32tab)], narrowed := true }
def OrderGoesUptoSaid : Prop := orderGoesUptoRow.holds Tryd.pinned (OpenSpec.upto orderGoesSpec)

/-- 'hoodwinklaw04.OrderAll', WHERE WHAT IT READS IS OF BULK AT MOST 1048576: true; the input reads as it did. -/
def orderAllUptoRow : OpenClaim := { program := "ytbfcllpjenohlaadoor", sum := "fad5c27db636d0f935d379398dd0986f9603ad4259d61ab785ec3d47b8587d98", func := "hoodwink/hoodwinklaw04.OrderAll", spec := "orderAll", named := ["math/bits.deBruijn32tab"], apart := false, laid := [("math/bits.deBruijn32tab", laid_math_bits_deBruijn32tab)], narrowed := true }
def OrderAllUptoSaid : Prop := orderAllUptoRow.holds Tryd.pinned (OpenSpec.upto orderAllSpec)

/-- 'hoodwinklaw04.OrderOld', WHERE WHAT IT READS IS OF BULK AT MOST 1048576: true; the input reads as it did. -/
def orderOldUptoRow : OpenClaim := { program := "ytbfcllpjenohlaadoor", sum := "fad5c27db636d0f935d379398dd0986f9603ad4259d61ab785ec3d47b8587d98", func := "hoodwink/hoodwinklaw04.OrderOld", spec := "orderOld", named := ["math/bits.deBruijn32tab"], apart := false, laid := [("math/bits.deBruijn32tab", laid_math_bits_deBruijn32tab)], narrowed := true }
def OrderOldUptoSaid : Prop := orderOldUptoRow.holds Tryd.pinned (OpenSpec.upto orderOldSpec)

/-- 'hoodwinklaw04.OrderTurns', WHERE WHAT IT READS IS OF BULK AT MOST 1048576: true; the input reads as it did. -/
def orderTurnsUptoRow : OpenClaim := { program := "ytbfcllpjenohlaadoor", sum := "fad5c27db636d0f935d379398dd0986f9603ad4259d61ab785ec3d47b8587d98", func := "hoodwink/hoodwinklaw04.OrderTurns", spec := "orderTurns", named := ["math/bits.deBruijn32tab"], apart := false, laid := [("math/bits.deBruijn32tab", laid_math_bits_deBruijn32tab)], narrowed := true }
def OrderTurnsUptoSaid : Prop := orderTurnsUptoRow.holds Tryd.pinned (OpenSpec.upto orderTurnsSpec)

/-- 'hoodwinklaw04.OrderNotes', WHERE WHAT IT READS IS OF BULK AT MOST 1048576: true; the input reads as it did. -/
def orderNotesUptoRow : OpenClaim := { program := "ytbfcllpjenohlaadoor", sum := "fad5c27db636d0f935d379398dd0986f9603ad4259d61ab785ec3d47b8587d98", func := "hoodwink/hoodwinklaw04.OrderNotes", spec := "orderNotes", named := ["math/bits.deBruijn32tab"], apart := false, laid := [("math/bits.deBruijn32tab", laid_math_bits_deBruijn32tab)], narrowed := true }
def OrderNotesUptoSaid : Prop := orderNotesUptoRow.holds Tryd.pinned (OpenSpec.upto orderNotesSpec)

end Rows
end Go.Proofs.YtbfcllpjenohlaaDoor
