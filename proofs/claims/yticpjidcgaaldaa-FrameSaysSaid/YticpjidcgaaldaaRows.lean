/-
  No cell of these rows narrows 'for every input' (looked for: loops, veiled, ifaces, maps, wideKeys, modest, calm, conditions, laid).
  DERIVED. THE GIVEN ROWS OF THIS SEAT. 7 by the template 'for every input the law returns true; each argument reads behind the call as it read before'; 0 by the template 'total and deterministic' (their statements: YticpjidcgaaldaaTotals.lean).
  GIVEN WITH THE SEED: the statements are not yours to turn. If you find one false, say at which input.
  Laid BY PROGRAM, IN A SANDBOX (cutbox-rows.mjs): the forced cells as the released guide's own fill.sh prints them over the translation 97e89b67eab2f74b… (all of the seat's roots in one cut). By AI agents, Wed Nov 11 2026. No macro, syntax, notation, axiom, sorry.
-/
import Derived.Test.YticpjidcgaaldaaChecked
import GoSem.Claim
import GoSem.ClaimJoined
import GoSem.ClaimMapViews
import Derived.JoinedTies
import Derived.KernelRfl
namespace Go.Proofs.Yticpjidcgaaldaa
/- THE CELL 'sum', in the pinned program and in every row, IS THE sha256 OF THE DUMP (.gsa) THAT YticpjidcgaaldaaProg.lean LOADS. Nothing in Lean hashes anything: it is a label: what it is worth is what the hold of that sum in a sandbox is worth. -/
noncomputable def Try.pinned : Pinned := { name := "yticpjidcgaaldaa", sum := "97e89b67eab2f74b2a5c83e3be556eec84e323a17a7d60346577fb92c80a496f", checked := Try.checked }
namespace Rows
def none {H : Type} : Left H := { results := [], args := [] }

/-- 'hoodwinklaw11.FrameSays': WHATEVER THE INPUT: true; the input reads as it did. -/
def frameSaysSpec : ChangeSpec := { name := "frameSays", fn := fun _ => fun
  | [d1, d2, d3, d4, d5] => { results := [.lit (.bool true)], args := [d1, d2, d3, d4, d5] }
  | _ => none }
def frameSaysRow : OpenClaim := { program := "yticpjidcgaaldaa", sum := "97e89b67eab2f74b2a5c83e3be556eec84e323a17a7d60346577fb92c80a496f", func := "hoodwink/hoodwinklaw11.FrameSays", spec := "frameSays", apart := false }
def FrameSaysSaid : Prop := frameSaysRow.holds Try.pinned (OpenSpec.ofChange frameSaysSpec)

/-- ITS FALSE NEIGHBOUR: 'it returns false'. Refute it at one input. -/
def frameSaysWrong : ChangeSpec := { name := "frameSays", fn := fun _ => fun
  | [d1, d2, d3, d4, d5] => { results := [.lit (.bool false)], args := [d1, d2, d3, d4, d5] }
  | _ => none }
def FrameSaysWrongFalsely : Prop := frameSaysRow.holds Try.pinned (OpenSpec.ofChange frameSaysWrong)

/-- 'hoodwinklaw11.FrameKinds': WHATEVER THE INPUT: true; the input reads as it did. -/
def frameKindsSpec : ChangeSpec := { name := "frameKinds", fn := fun _ => fun
  | [d1, d2, d3] => { results := [.lit (.bool true)], args := [d1, d2, d3] }
  | _ => none }
def frameKindsRow : OpenClaim := { program := "yticpjidcgaaldaa", sum := "97e89b67eab2f74b2a5c83e3be556eec84e323a17a7d60346577fb92c80a496f", func := "hoodwink/hoodwinklaw11.FrameKinds", spec := "frameKinds", apart := false }
def FrameKindsSaid : Prop := frameKindsRow.holds Try.pinned (OpenSpec.ofChange frameKindsSpec)

/-- ITS FALSE NEIGHBOUR: 'it returns false'. Refute it at one input. -/
def frameKindsWrong : ChangeSpec := { name := "frameKinds", fn := fun _ => fun
  | [d1, d2, d3] => { results := [.lit (.bool false)], args := [d1, d2, d3] }
  | _ => none }
def FrameKindsWrongFalsely : Prop := frameKindsRow.holds Try.pinned (OpenSpec.ofChange frameKindsWrong)

/-- 'hoodwinklaw11.FrameSizes': WHATEVER THE INPUT: true; the input reads as it did. -/
def frameSizesSpec : ChangeSpec := { name := "frameSizes", fn := fun _ => fun
  | [d1, d2, d3, d4, d5, d6] => { results := [.lit (.bool true)], args := [d1, d2, d3, d4, d5, d6] }
  | _ => none }
def frameSizesRow : OpenClaim := { program := "yticpjidcgaaldaa", sum := "97e89b67eab2f74b2a5c83e3be556eec84e323a17a7d60346577fb92c80a496f", func := "hoodwink/hoodwinklaw11.FrameSizes", spec := "frameSizes", apart := false }
def FrameSizesSaid : Prop := frameSizesRow.holds Try.pinned (OpenSpec.ofChange frameSizesSpec)

/-- ITS FALSE NEIGHBOUR: 'it returns false'. Refute it at one input. -/
def frameSizesWrong : ChangeSpec := { name := "frameSizes", fn := fun _ => fun
  | [d1, d2, d3, d4, d5, d6] => { results := [.lit (.bool false)], args := [d1, d2, d3, d4, d5, d6] }
  | _ => none }
def FrameSizesWrongFalsely : Prop := frameSizesRow.holds Try.pinned (OpenSpec.ofChange frameSizesWrong)

/-- 'hoodwinklaw11.FrameShows': WHATEVER THE INPUT: true; the input reads as it did. -/
def frameShowsSpec : ChangeSpec := { name := "frameShows", fn := fun _ => fun
  | [d1, d2, d3] => { results := [.lit (.bool true)], args := [d1, d2, d3] }
  | _ => none }
def frameShowsRow : OpenClaim := { program := "yticpjidcgaaldaa", sum := "97e89b67eab2f74b2a5c83e3be556eec84e323a17a7d60346577fb92c80a496f", func := "hoodwink/hoodwinklaw11.FrameShows", spec := "frameShows", apart := false }
def FrameShowsSaid : Prop := frameShowsRow.holds Try.pinned (OpenSpec.ofChange frameShowsSpec)

/-- ITS FALSE NEIGHBOUR: 'it returns false'. Refute it at one input. -/
def frameShowsWrong : ChangeSpec := { name := "frameShows", fn := fun _ => fun
  | [d1, d2, d3] => { results := [.lit (.bool false)], args := [d1, d2, d3] }
  | _ => none }
def FrameShowsWrongFalsely : Prop := frameShowsRow.holds Try.pinned (OpenSpec.ofChange frameShowsWrong)

/-- 'hoodwinklaw11.FrameForms': WHATEVER THE INPUT: true; the input reads as it did. -/
def frameFormsSpec : ChangeSpec := { name := "frameForms", fn := fun _ => fun
  | [d1, d2, d3, d4, d5, d6] => { results := [.lit (.bool true)], args := [d1, d2, d3, d4, d5, d6] }
  | _ => none }
def frameFormsRow : OpenClaim := { program := "yticpjidcgaaldaa", sum := "97e89b67eab2f74b2a5c83e3be556eec84e323a17a7d60346577fb92c80a496f", func := "hoodwink/hoodwinklaw11.FrameForms", spec := "frameForms", apart := false }
def FrameFormsSaid : Prop := frameFormsRow.holds Try.pinned (OpenSpec.ofChange frameFormsSpec)

/-- ITS FALSE NEIGHBOUR: 'it returns false'. Refute it at one input. -/
def frameFormsWrong : ChangeSpec := { name := "frameForms", fn := fun _ => fun
  | [d1, d2, d3, d4, d5, d6] => { results := [.lit (.bool false)], args := [d1, d2, d3, d4, d5, d6] }
  | _ => none }
def FrameFormsWrongFalsely : Prop := frameFormsRow.holds Try.pinned (OpenSpec.ofChange frameFormsWrong)

/-- 'hoodwinklaw11.FrameAlone': WHATEVER THE INPUT: true; the input reads as it did. -/
def frameAloneSpec : ChangeSpec := { name := "frameAlone", fn := fun _ => fun
  | [d1, d2, d3, d4, d5, d6] => { results := [.lit (.bool true)], args := [d1, d2, d3, d4, d5, d6] }
  | _ => none }
def frameAloneRow : OpenClaim := { program := "yticpjidcgaaldaa", sum := "97e89b67eab2f74b2a5c83e3be556eec84e323a17a7d60346577fb92c80a496f", func := "hoodwink/hoodwinklaw11.FrameAlone", spec := "frameAlone", apart := false }
def FrameAloneSaid : Prop := frameAloneRow.holds Try.pinned (OpenSpec.ofChange frameAloneSpec)

/-- ITS FALSE NEIGHBOUR: 'it returns false'. Refute it at one input. -/
def frameAloneWrong : ChangeSpec := { name := "frameAlone", fn := fun _ => fun
  | [d1, d2, d3, d4, d5, d6] => { results := [.lit (.bool false)], args := [d1, d2, d3, d4, d5, d6] }
  | _ => none }
def FrameAloneWrongFalsely : Prop := frameAloneRow.holds Try.pinned (OpenSpec.ofChange frameAloneWrong)

/-- 'hoodwinklaw11.FrameEnds': WHATEVER THE INPUT: true; the input reads as it did. -/
def frameEndsSpec : ChangeSpec := { name := "frameEnds", fn := fun _ => fun
  | [d1, d2, d3, d4, d5, d6, d7] => { results := [.lit (.bool true)], args := [d1, d2, d3, d4, d5, d6, d7] }
  | _ => none }
def frameEndsRow : OpenClaim := { program := "yticpjidcgaaldaa", sum := "97e89b67eab2f74b2a5c83e3be556eec84e323a17a7d60346577fb92c80a496f", func := "hoodwink/hoodwinklaw11.FrameEnds", spec := "frameEnds", apart := false }
def FrameEndsSaid : Prop := frameEndsRow.holds Try.pinned (OpenSpec.ofChange frameEndsSpec)

/-- ITS FALSE NEIGHBOUR: 'it returns false'. Refute it at one input. -/
def frameEndsWrong : ChangeSpec := { name := "frameEnds", fn := fun _ => fun
  | [d1, d2, d3, d4, d5, d6, d7] => { results := [.lit (.bool false)], args := [d1, d2, d3, d4, d5, d6, d7] }
  | _ => none }
def FrameEndsWrongFalsely : Prop := frameEndsRow.holds Try.pinned (OpenSpec.ofChange frameEndsWrong)

/- THE SECOND FORM. 'bulk': how many values and letters a reading holds, each counted each time it is reached (what is shared counts as often as it is met; a slice's spare places count too). A statement '..UptoSaid' is the law's where the arguments, and the package variables that the reading takes, are together of bulk at most 1048576: NARROWER than '..Said'. Prove '..Said' where nothing that the law and all that it calls make is longer than what came in: it says more and counts as full. Else prove '..UptoSaid'. A law counts once. -/
mutual
def uptoBulk {H : Type} : DataW H → Nat
  | .lit (.string bytes) => bytes.length + 1
  | .lit _ => 1
  | .nil => 1
  | .ptr d => uptoBulk d + 1
  | .slice elems spare => uptoBulkAll elems + uptoBulkAll spare + 1
  | .agg parts => uptoBulkAll parts + 1
  | .iface _ d => uptoBulk d + 1
  | .map entries => uptoBulkEntries entries + 1
  | .held _ => 1
def uptoBulkAll {H : Type} : List (DataW H) → Nat
  | [] => 0
  | d :: r => uptoBulk d + uptoBulkAll r
def uptoBulkEntries {H : Type} : List (Lit × DataW H) → Nat
  | [] => 0
  | x :: r => uptoBulkEntry x + uptoBulkEntries r
def uptoBulkEntry {H : Type} : Lit × DataW H → Nat
  | (.string bytes, d) => bytes.length + uptoBulk d + 1
  | (_, d) => uptoBulk d + 1
 end
def uptoSmall : (H : Type) → List (DataW H) → Bool := fun _ ds => decide (uptoBulkAll ds ≤ 1048576)
def OpenSpec.upto (s : _root_.Go.ChangeSpec) : _root_.Go.OpenSpec := { _root_.Go.OpenSpec.ofChange s with cond := some uptoSmall }

/-- 'hoodwinklaw11.FrameSays', WHERE WHAT IT READS IS OF BULK AT MOST 1048576: true; the input reads as it did. -/
def frameSaysUptoRow : OpenClaim := { program := "yticpjidcgaaldaa", sum := "97e89b67eab2f74b2a5c83e3be556eec84e323a17a7d60346577fb92c80a496f", func := "hoodwink/hoodwinklaw11.FrameSays", spec := "frameSays", apart := false, narrowed := true }
def FrameSaysUptoSaid : Prop := frameSaysUptoRow.holds Try.pinned (OpenSpec.upto frameSaysSpec)

/-- 'hoodwinklaw11.FrameKinds', WHERE WHAT IT READS IS OF BULK AT MOST 1048576: true; the input reads as it did. -/
def frameKindsUptoRow : OpenClaim := { program := "yticpjidcgaaldaa", sum := "97e89b67eab2f74b2a5c83e3be556eec84e323a17a7d60346577fb92c80a496f", func := "hoodwink/hoodwinklaw11.FrameKinds", spec := "frameKinds", apart := false, narrowed := true }
def FrameKindsUptoSaid : Prop := frameKindsUptoRow.holds Try.pinned (OpenSpec.upto frameKindsSpec)

/-- 'hoodwinklaw11.FrameSizes', WHERE WHAT IT READS IS OF BULK AT MOST 1048576: true; the input reads as it did. -/
def frameSizesUptoRow : OpenClaim := { program := "yticpjidcgaaldaa", sum := "97e89b67eab2f74b2a5c83e3be556eec84e323a17a7d60346577fb92c80a496f", func := "hoodwink/hoodwinklaw11.FrameSizes", spec := "frameSizes", apart := false, narrowed := true }
def FrameSizesUptoSaid : Prop := frameSizesUptoRow.holds Try.pinned (OpenSpec.upto frameSizesSpec)

/-- 'hoodwinklaw11.FrameShows', WHERE WHAT IT READS IS OF BULK AT MOST 1048576: true; the input reads as it did. -/
def frameShowsUptoRow : OpenClaim := { program := "yticpjidcgaaldaa", sum := "97e89b67eab2f74b2a5c83e3be556eec84e323a17a7d60346577fb92c80a496f", func := "hoodwink/hoodwinklaw11.FrameShows", spec := "frameShows", apart := false, narrowed := true }
def FrameShowsUptoSaid : Prop := frameShowsUptoRow.holds Try.pinned (OpenSpec.upto frameShowsSpec)

/-- 'hoodwinklaw11.FrameForms', WHERE WHAT IT READS IS OF BULK AT MOST 1048576: true; the input reads as it did. -/
def frameFormsUptoRow : OpenClaim := { program := "yticpjidcgaaldaa", sum := "97e89b67eab2f74b2a5c83e3be556eec84e323a17a7d60346577fb92c80a496f", func := "hoodwink/hoodwinklaw11.FrameForms", spec := "frameForms", apart := false, narrowed := true }
def FrameFormsUptoSaid : Prop := frameFormsUptoRow.holds Try.pinned (OpenSpec.upto frameFormsSpec)

/-- 'hoodwinklaw11.FrameAlone', WHERE WHAT IT READS IS OF BULK AT MOST 1048576: true; the input reads as it did. -/
def frameAloneUptoRow : OpenClaim := { program := "yticpjidcgaaldaa", sum := "97e89b67eab2f74b2a5c83e3be556eec84e323a17a7d60346577fb92c80a496f", func := "hoodwink/hoodwinklaw11.FrameAlone", spec := "frameAlone", apart := false, narrowed := true }
def FrameAloneUptoSaid : Prop := frameAloneUptoRow.holds Try.pinned (OpenSpec.upto frameAloneSpec)

/-- 'hoodwinklaw11.FrameEnds', WHERE WHAT IT READS IS OF BULK AT MOST 1048576: true; the input reads as it did. -/
def frameEndsUptoRow : OpenClaim := { program := "yticpjidcgaaldaa", sum := "97e89b67eab2f74b2a5c83e3be556eec84e323a17a7d60346577fb92c80a496f", func := "hoodwink/hoodwinklaw11.FrameEnds", spec := "frameEnds", apart := false, narrowed := true }
def FrameEndsUptoSaid : Prop := frameEndsUptoRow.holds Try.pinned (OpenSpec.upto frameEndsSpec)

end Rows
end Go.Proofs.Yticpjidcgaaldaa
