/-
  No cell of these rows narrows 'for every input' (looked for: loops, veiled, ifaces, maps, wideKeys, modest, calm, conditions, laid).
  DERIVED. THE GIVEN ROWS OF THIS SEAT. 6 by the template 'for every input the law returns true; each argument reads behind the call as it read before'; 0 by the template 'total and deterministic' (their statements: YtmhninlndjcikaaTotals.lean).
  GIVEN WITH THE SEED: the statements are not yours to turn. If you find one false, say at which input.
  Laid BY PROGRAM, IN A SANDBOX (cutbox-rows.mjs): the forced cells as the released guide's own fill.sh prints them over the translation ba5be4c4ff5fa059… (all of the seat's roots in one cut). By AI agents, Wed Nov 11 2026. No macro, syntax, notation, axiom, sorry.
-/
import Derived.Test.YtmhninlndjcikaaChecked
import GoSem.Claim
import GoSem.ClaimJoined
import GoSem.ClaimMapViews
import Derived.JoinedTies
import Derived.KernelRfl
namespace Go.Proofs.Ytmhninlndjcikaa
/- THE CELL 'sum', in the pinned program and in every row, IS THE sha256 OF THE DUMP (.gsa) THAT YtmhninlndjcikaaProg.lean LOADS. Nothing in Lean hashes anything: it is a label: what it is worth is what the hold of that sum in a sandbox is worth. -/
noncomputable def Try.pinned : Pinned := { name := "ytmhninlndjcikaa", sum := "ba5be4c4ff5fa0599678fc3b33cc2626fa243dabd664033085de79bd5b0b352c", checked := Try.checked }
namespace Rows
def none {H : Type} : Left H := { results := [], args := [] }

/-- 'hoodwinklaw12.ClipCounts': WHATEVER THE INPUT: true; the input reads as it did. -/
def clipCountsSpec : ChangeSpec := { name := "clipCounts", fn := fun _ => fun
  | [d1, d2] => { results := [.lit (.bool true)], args := [d1, d2] }
  | _ => none }
def clipCountsRow : OpenClaim := { program := "ytmhninlndjcikaa", sum := "ba5be4c4ff5fa0599678fc3b33cc2626fa243dabd664033085de79bd5b0b352c", func := "hoodwink/hoodwinklaw12.ClipCounts", spec := "clipCounts", apart := false }
def ClipCountsSaid : Prop := clipCountsRow.holds Try.pinned (OpenSpec.ofChange clipCountsSpec)

/-- ITS FALSE NEIGHBOUR: 'it returns false'. Refute it at one input. -/
def clipCountsWrong : ChangeSpec := { name := "clipCounts", fn := fun _ => fun
  | [d1, d2] => { results := [.lit (.bool false)], args := [d1, d2] }
  | _ => none }
def ClipCountsWrongFalsely : Prop := clipCountsRow.holds Try.pinned (OpenSpec.ofChange clipCountsWrong)

/-- 'hoodwinklaw12.ClipLong': WHATEVER THE INPUT: true; the input reads as it did. -/
def clipLongSpec : ChangeSpec := { name := "clipLong", fn := fun _ => fun
  | [d1, d2] => { results := [.lit (.bool true)], args := [d1, d2] }
  | _ => none }
def clipLongRow : OpenClaim := { program := "ytmhninlndjcikaa", sum := "ba5be4c4ff5fa0599678fc3b33cc2626fa243dabd664033085de79bd5b0b352c", func := "hoodwink/hoodwinklaw12.ClipLong", spec := "clipLong", apart := false }
def ClipLongSaid : Prop := clipLongRow.holds Try.pinned (OpenSpec.ofChange clipLongSpec)

/-- ITS FALSE NEIGHBOUR: 'it returns false'. Refute it at one input. -/
def clipLongWrong : ChangeSpec := { name := "clipLong", fn := fun _ => fun
  | [d1, d2] => { results := [.lit (.bool false)], args := [d1, d2] }
  | _ => none }
def ClipLongWrongFalsely : Prop := clipLongRow.holds Try.pinned (OpenSpec.ofChange clipLongWrong)

/-- 'hoodwinklaw12.ClipGathers': WHATEVER THE INPUT: true; the input reads as it did. -/
def clipGathersSpec : ChangeSpec := { name := "clipGathers", fn := fun _ => fun
  | [d1, d2] => { results := [.lit (.bool true)], args := [d1, d2] }
  | _ => none }
def clipGathersRow : OpenClaim := { program := "ytmhninlndjcikaa", sum := "ba5be4c4ff5fa0599678fc3b33cc2626fa243dabd664033085de79bd5b0b352c", func := "hoodwink/hoodwinklaw12.ClipGathers", spec := "clipGathers", apart := false }
def ClipGathersSaid : Prop := clipGathersRow.holds Try.pinned (OpenSpec.ofChange clipGathersSpec)

/-- ITS FALSE NEIGHBOUR: 'it returns false'. Refute it at one input. -/
def clipGathersWrong : ChangeSpec := { name := "clipGathers", fn := fun _ => fun
  | [d1, d2] => { results := [.lit (.bool false)], args := [d1, d2] }
  | _ => none }
def ClipGathersWrongFalsely : Prop := clipGathersRow.holds Try.pinned (OpenSpec.ofChange clipGathersWrong)

/-- 'hoodwinklaw12.ClipRows': WHATEVER THE INPUT: true; the input reads as it did. -/
def clipRowsSpec : ChangeSpec := { name := "clipRows", fn := fun _ => fun
  | [d1, d2] => { results := [.lit (.bool true)], args := [d1, d2] }
  | _ => none }
def clipRowsRow : OpenClaim := { program := "ytmhninlndjcikaa", sum := "ba5be4c4ff5fa0599678fc3b33cc2626fa243dabd664033085de79bd5b0b352c", func := "hoodwink/hoodwinklaw12.ClipRows", spec := "clipRows", apart := false }
def ClipRowsSaid : Prop := clipRowsRow.holds Try.pinned (OpenSpec.ofChange clipRowsSpec)

/-- ITS FALSE NEIGHBOUR: 'it returns false'. Refute it at one input. -/
def clipRowsWrong : ChangeSpec := { name := "clipRows", fn := fun _ => fun
  | [d1, d2] => { results := [.lit (.bool false)], args := [d1, d2] }
  | _ => none }
def ClipRowsWrongFalsely : Prop := clipRowsRow.holds Try.pinned (OpenSpec.ofChange clipRowsWrong)

/-- 'hoodwinklaw12.ClipSplits': WHATEVER THE INPUT: true; the input reads as it did. -/
def clipSplitsSpec : ChangeSpec := { name := "clipSplits", fn := fun _ => fun
  | [d1, d2, d3] => { results := [.lit (.bool true)], args := [d1, d2, d3] }
  | _ => none }
def clipSplitsRow : OpenClaim := { program := "ytmhninlndjcikaa", sum := "ba5be4c4ff5fa0599678fc3b33cc2626fa243dabd664033085de79bd5b0b352c", func := "hoodwink/hoodwinklaw12.ClipSplits", spec := "clipSplits", apart := false }
def ClipSplitsSaid : Prop := clipSplitsRow.holds Try.pinned (OpenSpec.ofChange clipSplitsSpec)

/-- ITS FALSE NEIGHBOUR: 'it returns false'. Refute it at one input. -/
def clipSplitsWrong : ChangeSpec := { name := "clipSplits", fn := fun _ => fun
  | [d1, d2, d3] => { results := [.lit (.bool false)], args := [d1, d2, d3] }
  | _ => none }
def ClipSplitsWrongFalsely : Prop := clipSplitsRow.holds Try.pinned (OpenSpec.ofChange clipSplitsWrong)

/-- 'hoodwinklaw12.ClipNil': WHATEVER THE INPUT: true; the input reads as it did. -/
def clipNilSpec : ChangeSpec := { name := "clipNil", fn := fun _ => fun
  | [d1, d2] => { results := [.lit (.bool true)], args := [d1, d2] }
  | _ => none }
def clipNilRow : OpenClaim := { program := "ytmhninlndjcikaa", sum := "ba5be4c4ff5fa0599678fc3b33cc2626fa243dabd664033085de79bd5b0b352c", func := "hoodwink/hoodwinklaw12.ClipNil", spec := "clipNil", apart := false }
def ClipNilSaid : Prop := clipNilRow.holds Try.pinned (OpenSpec.ofChange clipNilSpec)

/-- ITS FALSE NEIGHBOUR: 'it returns false'. Refute it at one input. -/
def clipNilWrong : ChangeSpec := { name := "clipNil", fn := fun _ => fun
  | [d1, d2] => { results := [.lit (.bool false)], args := [d1, d2] }
  | _ => none }
def ClipNilWrongFalsely : Prop := clipNilRow.holds Try.pinned (OpenSpec.ofChange clipNilWrong)

/- THE SECOND FORM. 'bulk': how many values and letters a reading holds, each counted each time it is reached (what is shared counts as often as it is met; a slice's spare places count too). A statement '..UptoSaid' is the law's where the arguments, and the package variables that the reading takes, are together of bulk at most 1048576: NARROWER than '..Said'. Prove '..Said' where nothing that the law and all that it calls make is longer than what came in: it says more and counts as full. Else prove '..UptoSaid'. A law counts once. -/
mutual
def uptoBulk {H : Type} : DataW H → Nat
  | .lit (.string bytes) => bytes.length + 1
  | .lit _ => 1
  | .nil => 1
  | .ptr d => uptoBulk d + 1
  | .slice elems spare => uptoBulkAll elems + uptoBulkAll spare + 1
  | .agg parts => uptoBulkAll parts + 1
  | .iface _ d => uptoBulk d + 1
  | .map entries => uptoBulkEntries entries + 1
  | .held _ => 1
def uptoBulkAll {H : Type} : List (DataW H) → Nat
  | [] => 0
  | d :: r => uptoBulk d + uptoBulkAll r
def uptoBulkEntries {H : Type} : List (Lit × DataW H) → Nat
  | [] => 0
  | x :: r => uptoBulkEntry x + uptoBulkEntries r
def uptoBulkEntry {H : Type} : Lit × DataW H → Nat
  | (.string bytes, d) => bytes.length + uptoBulk d + 1
  | (_, d) => uptoBulk d + 1
 end
def uptoSmall : (H : Type) → List (DataW H) → Bool := fun _ ds => decide (uptoBulkAll ds ≤ 1048576)
def OpenSpec.upto (s : _root_.Go.ChangeSpec) : _root_.Go.OpenSpec := { _root_.Go.OpenSpec.ofChange s with cond := some uptoSmall }

/-- 'hoodwinklaw12.ClipCounts', WHERE WHAT IT READS IS OF BULK AT MOST 1048576: true; the input reads as it did. -/
def clipCountsUptoRow : OpenClaim := { program := "ytmhninlndjcikaa", sum := "ba5be4c4ff5fa0599678fc3b33cc2626fa243dabd664033085de79bd5b0b352c", func := "hoodwink/hoodwinklaw12.ClipCounts", spec := "clipCounts", apart := false, narrowed := true }
def ClipCountsUptoSaid : Prop := clipCountsUptoRow.holds Try.pinned (OpenSpec.upto clipCountsSpec)

/-- 'hoodwinklaw12.ClipLong', WHERE WHAT IT READS IS OF BULK AT MOST 1048576: true; the input reads as it did. -/
def clipLongUptoRow : OpenClaim := { program := "ytmhninlndjcikaa", sum := "ba5be4c4ff5fa0599678fc3b33cc2626fa243dabd664033085de79bd5b0b352c", func := "hoodwink/hoodwinklaw12.ClipLong", spec := "clipLong", apart := false, narrowed := true }
def ClipLongUptoSaid : Prop := clipLongUptoRow.holds Try.pinned (OpenSpec.upto clipLongSpec)

/-- 'hoodwinklaw12.ClipGathers', WHERE WHAT IT READS IS OF BULK AT MOST 1048576: true; the input reads as it did. -/
def clipGathersUptoRow : OpenClaim := { program := "ytmhninlndjcikaa", sum := "ba5be4c4ff5fa0599678fc3b33cc2626fa243dabd664033085de79bd5b0b352c", func := "hoodwink/hoodwinklaw12.ClipGathers", spec := "clipGathers", apart := false, narrowed := true }
def ClipGathersUptoSaid : Prop := clipGathersUptoRow.holds Try.pinned (OpenSpec.upto clipGathersSpec)

/-- 'hoodwinklaw12.ClipRows', WHERE WHAT IT READS IS OF BULK AT MOST 1048576: true; the input reads as it did. -/
def clipRowsUptoRow : OpenClaim := { program := "ytmhninlndjcikaa", sum := "ba5be4c4ff5fa0599678fc3b33cc2626fa243dabd664033085de79bd5b0b352c", func := "hoodwink/hoodwinklaw12.ClipRows", spec := "clipRows", apart := false, narrowed := true }
def ClipRowsUptoSaid : Prop := clipRowsUptoRow.holds Try.pinned (OpenSpec.upto clipRowsSpec)

/-- 'hoodwinklaw12.ClipSplits', WHERE WHAT IT READS IS OF BULK AT MOST 1048576: true; the input reads as it did. -/
def clipSplitsUptoRow : OpenClaim := { program := "ytmhninlndjcikaa", sum := "ba5be4c4ff5fa0599678fc3b33cc2626fa243dabd664033085de79bd5b0b352c", func := "hoodwink/hoodwinklaw12.ClipSplits", spec := "clipSplits", apart := false, narrowed := true }
def ClipSplitsUptoSaid : Prop := clipSplitsUptoRow.holds Try.pinned (OpenSpec.upto clipSplitsSpec)

/-- 'hoodwinklaw12.ClipNil', WHERE WHAT IT READS IS OF BULK AT MOST 1048576: true; the input reads as it did. -/
def clipNilUptoRow : OpenClaim := { program := "ytmhninlndjcikaa", sum := "ba5be4c4ff5fa0599678fc3b33cc2626fa243dabd664033085de79bd5b0b352c", func := "hoodwink/hoodwinklaw12.ClipNil", spec := "clipNil", apart := false, narrowed := true }
def ClipNilUptoSaid : Prop := clipNilUptoRow.holds Try.pinned (OpenSpec.upto clipNilSpec)

end Rows
end Go.Proofs.Ytmhninlndjcikaa
