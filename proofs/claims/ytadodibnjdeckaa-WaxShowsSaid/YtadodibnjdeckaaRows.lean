/-
  No cell of these rows narrows 'for every input' (looked for: loops, veiled, ifaces, maps, wideKeys, modest, calm, conditions, laid).
  DERIVED. THE GIVEN ROWS OF THIS SEAT. 5 by the template 'for every input the law returns true; each argument reads behind the call as it read before'; 0 by the template 'total and deterministic' (their statements: YtadodibnjdeckaaTotals.lean).
  GIVEN WITH THE SEED: the statements are not yours to turn. If you find one false, say at which input.
  Laid BY PROGRAM, IN A SANDBOX (cutbox-rows.mjs): the forced cells as the released guide's own fill.sh prints them over the translation 75019318b1e736d0… (all of the seat's roots in one cut). By AI agents, Wed Nov 11 2026. No macro, syntax, notation, axiom, sorry.
-/
import Derived.Test.YtadodibnjdeckaaChecked
import GoSem.Claim
import GoSem.ClaimJoined
import GoSem.ClaimMapViews
import Derived.JoinedTies
import Derived.KernelRfl
namespace Go.Proofs.Ytadodibnjdeckaa
/- THE CELL 'sum', in the pinned program and in every row, IS THE sha256 OF THE DUMP (.gsa) THAT YtadodibnjdeckaaProg.lean LOADS. Nothing in Lean hashes anything: it is a label: what it is worth is what the hold of that sum in a sandbox is worth. -/
noncomputable def Try.pinned : Pinned := { name := "ytadodibnjdeckaa", sum := "75019318b1e736d05f4403a6765ad102d4630147fffb48218cc5a133757efaeb", checked := Try.checked }
namespace Rows
def none {H : Type} : Left H := { results := [], args := [] }

/-- 'hoodwinklaw02.WaxSums': WHATEVER THE INPUT: true; the input reads as it did. -/
def waxSumsSpec : ChangeSpec := { name := "waxSums", fn := fun _ => fun
  | [d1, d2] => { results := [.lit (.bool true)], args := [d1, d2] }
  | _ => none }
def waxSumsRow : OpenClaim := { program := "ytadodibnjdeckaa", sum := "75019318b1e736d05f4403a6765ad102d4630147fffb48218cc5a133757efaeb", func := "hoodwink/hoodwinklaw02.WaxSums", spec := "waxSums", apart := false }
def WaxSumsSaid : Prop := waxSumsRow.holds Try.pinned (OpenSpec.ofChange waxSumsSpec)

/-- ITS FALSE NEIGHBOUR: 'it returns false'. Refute it at one input. -/
def waxSumsWrong : ChangeSpec := { name := "waxSums", fn := fun _ => fun
  | [d1, d2] => { results := [.lit (.bool false)], args := [d1, d2] }
  | _ => none }
def WaxSumsWrongFalsely : Prop := waxSumsRow.holds Try.pinned (OpenSpec.ofChange waxSumsWrong)

/-- 'hoodwinklaw02.WaxJoins': WHATEVER THE INPUT: true; the input reads as it did. -/
def waxJoinsSpec : ChangeSpec := { name := "waxJoins", fn := fun _ => fun
  | [d1, d2, d3] => { results := [.lit (.bool true)], args := [d1, d2, d3] }
  | _ => none }
def waxJoinsRow : OpenClaim := { program := "ytadodibnjdeckaa", sum := "75019318b1e736d05f4403a6765ad102d4630147fffb48218cc5a133757efaeb", func := "hoodwink/hoodwinklaw02.WaxJoins", spec := "waxJoins", apart := false }
def WaxJoinsSaid : Prop := waxJoinsRow.holds Try.pinned (OpenSpec.ofChange waxJoinsSpec)

/-- ITS FALSE NEIGHBOUR: 'it returns false'. Refute it at one input. -/
def waxJoinsWrong : ChangeSpec := { name := "waxJoins", fn := fun _ => fun
  | [d1, d2, d3] => { results := [.lit (.bool false)], args := [d1, d2, d3] }
  | _ => none }
def WaxJoinsWrongFalsely : Prop := waxJoinsRow.holds Try.pinned (OpenSpec.ofChange waxJoinsWrong)

/-- 'hoodwinklaw02.WaxSeals': WHATEVER THE INPUT: true; the input reads as it did. -/
def waxSealsSpec : ChangeSpec := { name := "waxSeals", fn := fun _ => fun
  | [d1, d2] => { results := [.lit (.bool true)], args := [d1, d2] }
  | _ => none }
def waxSealsRow : OpenClaim := { program := "ytadodibnjdeckaa", sum := "75019318b1e736d05f4403a6765ad102d4630147fffb48218cc5a133757efaeb", func := "hoodwink/hoodwinklaw02.WaxSeals", spec := "waxSeals", apart := false }
def WaxSealsSaid : Prop := waxSealsRow.holds Try.pinned (OpenSpec.ofChange waxSealsSpec)

/-- ITS FALSE NEIGHBOUR: 'it returns false'. Refute it at one input. -/
def waxSealsWrong : ChangeSpec := { name := "waxSeals", fn := fun _ => fun
  | [d1, d2] => { results := [.lit (.bool false)], args := [d1, d2] }
  | _ => none }
def WaxSealsWrongFalsely : Prop := waxSealsRow.holds Try.pinned (OpenSpec.ofChange waxSealsWrong)

/-- 'hoodwinklaw02.WaxShows': WHATEVER THE INPUT: true; the input reads as it did. -/
def waxShowsSpec : ChangeSpec := { name := "waxShows", fn := fun _ => fun
  | [d1, d2, d3] => { results := [.lit (.bool true)], args := [d1, d2, d3] }
  | _ => none }
def waxShowsRow : OpenClaim := { program := "ytadodibnjdeckaa", sum := "75019318b1e736d05f4403a6765ad102d4630147fffb48218cc5a133757efaeb", func := "hoodwink/hoodwinklaw02.WaxShows", spec := "waxShows", apart := false }
def WaxShowsSaid : Prop := waxShowsRow.holds Try.pinned (OpenSpec.ofChange waxShowsSpec)

/-- ITS FALSE NEIGHBOUR: 'it returns false'. Refute it at one input. -/
def waxShowsWrong : ChangeSpec := { name := "waxShows", fn := fun _ => fun
  | [d1, d2, d3] => { results := [.lit (.bool false)], args := [d1, d2, d3] }
  | _ => none }
def WaxShowsWrongFalsely : Prop := waxShowsRow.holds Try.pinned (OpenSpec.ofChange waxShowsWrong)

/-- 'hoodwinklaw02.WaxCuts': WHATEVER THE INPUT: true; the input reads as it did. -/
def waxCutsSpec : ChangeSpec := { name := "waxCuts", fn := fun _ => fun
  | [d1, d2, d3] => { results := [.lit (.bool true)], args := [d1, d2, d3] }
  | _ => none }
def waxCutsRow : OpenClaim := { program := "ytadodibnjdeckaa", sum := "75019318b1e736d05f4403a6765ad102d4630147fffb48218cc5a133757efaeb", func := "hoodwink/hoodwinklaw02.WaxCuts", spec := "waxCuts", apart := false }
def WaxCutsSaid : Prop := waxCutsRow.holds Try.pinned (OpenSpec.ofChange waxCutsSpec)

/-- ITS FALSE NEIGHBOUR: 'it returns false'. Refute it at one input. -/
def waxCutsWrong : ChangeSpec := { name := "waxCuts", fn := fun _ => fun
  | [d1, d2, d3] => { results := [.lit (.bool false)], args := [d1, d2, d3] }
  | _ => none }
def WaxCutsWrongFalsely : Prop := waxCutsRow.holds Try.pinned (OpenSpec.ofChange waxCutsWrong)

/- THE SECOND FORM. 'bulk': how many values and letters a reading holds, each counted each time it is reached (what is shared counts as often as it is met; a slice's spare places count too). A statement '..UptoSaid' is the law's where the arguments, and the package variables that the reading takes, are together of bulk at most 1048576: NARROWER than '..Said'. Prove '..Said' where nothing that the law and all that it calls make is longer than what came in: it says more and counts as full. Else prove '..UptoSaid'. A law counts once. -/
mutual
def uptoBulk {H : Type} : DataW H → Nat
  | .lit (.string bytes) => bytes.length + 1
  | .lit _ => 1
  | .nil => 1
  | .ptr d => uptoBulk d + 1
  | .slice elems spare => uptoBulkAll elems + uptoBulkAll spare + 1
  | .agg parts => uptoBulkAll parts + 1
  | .iface _ d => uptoBulk d + 1
  | .map entries => uptoBulkEntries entries + 1
  | .held _ => 1
def uptoBulkAll {H : Type} : List (DataW H) → Nat
  | [] => 0
  | d :: r => uptoBulk d + uptoBulkAll r
def uptoBulkEntries {H : Type} : List (Lit × DataW H) → Nat
  | [] => 0
  | x :: r => uptoBulkEntry x + uptoBulkEntries r
def uptoBulkEntry {H : Type} : Lit × DataW H → Nat
  | (.string bytes, d) => bytes.length + uptoBulk d + 1
  | (_, d) => uptoBulk d + 1
 end
def uptoSmall : (H : Type) → List (DataW H) → Bool := fun _ ds => decide (uptoBulkAll ds ≤ 1048576)
def OpenSpec.upto (s : _root_.Go.ChangeSpec) : _root_.Go.OpenSpec := { _root_.Go.OpenSpec.ofChange s with cond := some uptoSmall }

/-- 'hoodwinklaw02.WaxSums', WHERE WHAT IT READS IS OF BULK AT MOST 1048576: true; the input reads as it did. -/
def waxSumsUptoRow : OpenClaim := { program := "ytadodibnjdeckaa", sum := "75019318b1e736d05f4403a6765ad102d4630147fffb48218cc5a133757efaeb", func := "hoodwink/hoodwinklaw02.WaxSums", spec := "waxSums", apart := false, narrowed := true }
def WaxSumsUptoSaid : Prop := waxSumsUptoRow.holds Try.pinned (OpenSpec.upto waxSumsSpec)

/-- 'hoodwinklaw02.WaxJoins', WHERE WHAT IT READS IS OF BULK AT MOST 1048576: true; the input reads as it did. -/
def waxJoinsUptoRow : OpenClaim := { program := "ytadodibnjdeckaa", sum := "75019318b1e736d05f4403a6765ad102d4630147fffb48218cc5a133757efaeb", func := "hoodwink/hoodwinklaw02.WaxJoins", spec := "waxJoins", apart := false, narrowed := true }
def WaxJoinsUptoSaid : Prop := waxJoinsUptoRow.holds Try.pinned (OpenSpec.upto waxJoinsSpec)

/-- 'hoodwinklaw02.WaxSeals', WHERE WHAT IT READS IS OF BULK AT MOST 1048576: true; the input reads as it did. -/
def waxSealsUptoRow : OpenClaim := { program := "ytadodibnjdeckaa", sum := "75019318b1e736d05f4403a6765ad102d4630147fffb48218cc5a133757efaeb", func := "hoodwink/hoodwinklaw02.WaxSeals", spec := "waxSeals", apart := false, narrowed := true }
def WaxSealsUptoSaid : Prop := waxSealsUptoRow.holds Try.pinned (OpenSpec.upto waxSealsSpec)

/-- 'hoodwinklaw02.WaxShows', WHERE WHAT IT READS IS OF BULK AT MOST 1048576: true; the input reads as it did. -/
def waxShowsUptoRow : OpenClaim := { program := "ytadodibnjdeckaa", sum := "75019318b1e736d05f4403a6765ad102d4630147fffb48218cc5a133757efaeb", func := "hoodwink/hoodwinklaw02.WaxShows", spec := "waxShows", apart := false, narrowed := true }
def WaxShowsUptoSaid : Prop := waxShowsUptoRow.holds Try.pinned (OpenSpec.upto waxShowsSpec)

/-- 'hoodwinklaw02.WaxCuts', WHERE WHAT IT READS IS OF BULK AT MOST 1048576: true; the input reads as it did. -/
def waxCutsUptoRow : OpenClaim := { program := "ytadodibnjdeckaa", sum := "75019318b1e736d05f4403a6765ad102d4630147fffb48218cc5a133757efaeb", func := "hoodwink/hoodwinklaw02.WaxCuts", spec := "waxCuts", apart := false, narrowed := true }
def WaxCutsUptoSaid : Prop := waxCutsUptoRow.holds Try.pinned (OpenSpec.upto waxCutsSpec)

end Rows
end Go.Proofs.Ytadodibnjdeckaa
