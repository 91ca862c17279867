/-
  No cell of these rows narrows 'for every input' (looked for: loops, veiled, ifaces, maps, wideKeys, modest, calm, conditions, laid).
  DERIVED. THE GIVEN ROWS OF THIS SEAT. 5 by the template 'for every input the law returns true; each argument reads behind the call as it read before'; 0 by the template 'total and deterministic' (their statements: YtkhlalpkkmjfnaaTotals.lean).
  GIVEN WITH THE SEED: the statements are not yours to turn. If you find one false, say at which input.
  Laid BY PROGRAM, IN A SANDBOX (cutbox-rows.mjs): the forced cells as the released guide's own fill.sh prints them over the translation 1d35412c30b93d9c… (all of the seat's roots in one cut). By AI agents, Wed Nov 11 2026. No macro, syntax, notation, axiom, sorry.
-/
import Derived.Test.YtkhlalpkkmjfnaaChecked
import GoSem.Claim
import GoSem.ClaimJoined
import GoSem.ClaimMapViews
import Derived.JoinedTies
import Derived.KernelRfl
namespace Go.Proofs.Ytkhlalpkkmjfnaa
/- THE CELL 'sum', in the pinned program and in every row, IS THE sha256 OF THE DUMP (.gsa) THAT YtkhlalpkkmjfnaaProg.lean LOADS. Nothing in Lean hashes anything: it is a label: what it is worth is what the hold of that sum in a sandbox is worth. -/
noncomputable def Try.pinned : Pinned := { name := "ytkhlalpkkmjfnaa", sum := "1d35412c30b93d9c0f76efebef67be64b8903b5211b3098788338d1a0be3969e", checked := Try.checked }
namespace Rows
def none {H : Type} : Left H := { results := [], args := [] }

/-- 'hoodwinklaw07.DeltaHides': WHATEVER THE INPUT: true; the input reads as it did. -/
def deltaHidesSpec : ChangeSpec := { name := "deltaHides", fn := fun _ => fun
  | [d1, d2, d3, d4, d5] => { results := [.lit (.bool true)], args := [d1, d2, d3, d4, d5] }
  | _ => none }
def deltaHidesRow : OpenClaim := { program := "ytkhlalpkkmjfnaa", sum := "1d35412c30b93d9c0f76efebef67be64b8903b5211b3098788338d1a0be3969e", func := "hoodwink/hoodwinklaw07.DeltaHides", spec := "deltaHides", apart := false }
def DeltaHidesSaid : Prop := deltaHidesRow.holds Try.pinned (OpenSpec.ofChange deltaHidesSpec)

/-- ITS FALSE NEIGHBOUR: 'it returns false'. Refute it at one input. -/
def deltaHidesWrong : ChangeSpec := { name := "deltaHides", fn := fun _ => fun
  | [d1, d2, d3, d4, d5] => { results := [.lit (.bool false)], args := [d1, d2, d3, d4, d5] }
  | _ => none }
def DeltaHidesWrongFalsely : Prop := deltaHidesRow.holds Try.pinned (OpenSpec.ofChange deltaHidesWrong)

/-- 'hoodwinklaw07.DeltaChains': WHATEVER THE INPUT: true; the input reads as it did. -/
def deltaChainsSpec : ChangeSpec := { name := "deltaChains", fn := fun _ => fun
  | [d1, d2, d3, d4] => { results := [.lit (.bool true)], args := [d1, d2, d3, d4] }
  | _ => none }
def deltaChainsRow : OpenClaim := { program := "ytkhlalpkkmjfnaa", sum := "1d35412c30b93d9c0f76efebef67be64b8903b5211b3098788338d1a0be3969e", func := "hoodwink/hoodwinklaw07.DeltaChains", spec := "deltaChains", apart := false }
def DeltaChainsSaid : Prop := deltaChainsRow.holds Try.pinned (OpenSpec.ofChange deltaChainsSpec)

/-- ITS FALSE NEIGHBOUR: 'it returns false'. Refute it at one input. -/
def deltaChainsWrong : ChangeSpec := { name := "deltaChains", fn := fun _ => fun
  | [d1, d2, d3, d4] => { results := [.lit (.bool false)], args := [d1, d2, d3, d4] }
  | _ => none }
def DeltaChainsWrongFalsely : Prop := deltaChainsRow.holds Try.pinned (OpenSpec.ofChange deltaChainsWrong)

/-- 'hoodwinklaw07.DeltaWrong': WHATEVER THE INPUT: true; the input reads as it did. -/
def deltaWrongSpec : ChangeSpec := { name := "deltaWrong", fn := fun _ => fun
  | [d1, d2, d3, d4] => { results := [.lit (.bool true)], args := [d1, d2, d3, d4] }
  | _ => none }
def deltaWrongRow : OpenClaim := { program := "ytkhlalpkkmjfnaa", sum := "1d35412c30b93d9c0f76efebef67be64b8903b5211b3098788338d1a0be3969e", func := "hoodwink/hoodwinklaw07.DeltaWrong", spec := "deltaWrong", apart := false }
def DeltaWrongSaid : Prop := deltaWrongRow.holds Try.pinned (OpenSpec.ofChange deltaWrongSpec)

/-- ITS FALSE NEIGHBOUR: 'it returns false'. Refute it at one input. -/
def deltaWrongWrong : ChangeSpec := { name := "deltaWrong", fn := fun _ => fun
  | [d1, d2, d3, d4] => { results := [.lit (.bool false)], args := [d1, d2, d3, d4] }
  | _ => none }
def DeltaWrongWrongFalsely : Prop := deltaWrongRow.holds Try.pinned (OpenSpec.ofChange deltaWrongWrong)

/-- 'hoodwinklaw07.DeltaTells': WHATEVER THE INPUT: true; the input reads as it did. -/
def deltaTellsSpec : ChangeSpec := { name := "deltaTells", fn := fun _ => fun
  | [d1, d2, d3, d4, d5, d6] => { results := [.lit (.bool true)], args := [d1, d2, d3, d4, d5, d6] }
  | _ => none }
def deltaTellsRow : OpenClaim := { program := "ytkhlalpkkmjfnaa", sum := "1d35412c30b93d9c0f76efebef67be64b8903b5211b3098788338d1a0be3969e", func := "hoodwink/hoodwinklaw07.DeltaTells", spec := "deltaTells", apart := false }
def DeltaTellsSaid : Prop := deltaTellsRow.holds Try.pinned (OpenSpec.ofChange deltaTellsSpec)

/-- ITS FALSE NEIGHBOUR: 'it returns false'. Refute it at one input. -/
def deltaTellsWrong : ChangeSpec := { name := "deltaTells", fn := fun _ => fun
  | [d1, d2, d3, d4, d5, d6] => { results := [.lit (.bool false)], args := [d1, d2, d3, d4, d5, d6] }
  | _ => none }
def DeltaTellsWrongFalsely : Prop := deltaTellsRow.holds Try.pinned (OpenSpec.ofChange deltaTellsWrong)

/-- 'hoodwinklaw07.DeltaForms': WHATEVER THE INPUT: true; the input reads as it did. -/
def deltaFormsSpec : ChangeSpec := { name := "deltaForms", fn := fun _ => fun
  | [d1, d2, d3, d4] => { results := [.lit (.bool true)], args := [d1, d2, d3, d4] }
  | _ => none }
def deltaFormsRow : OpenClaim := { program := "ytkhlalpkkmjfnaa", sum := "1d35412c30b93d9c0f76efebef67be64b8903b5211b3098788338d1a0be3969e", func := "hoodwink/hoodwinklaw07.DeltaForms", spec := "deltaForms", apart := false }
def DeltaFormsSaid : Prop := deltaFormsRow.holds Try.pinned (OpenSpec.ofChange deltaFormsSpec)

/-- ITS FALSE NEIGHBOUR: 'it returns false'. Refute it at one input. -/
def deltaFormsWrong : ChangeSpec := { name := "deltaForms", fn := fun _ => fun
  | [d1, d2, d3, d4] => { results := [.lit (.bool false)], args := [d1, d2, d3, d4] }
  | _ => none }
def DeltaFormsWrongFalsely : Prop := deltaFormsRow.holds Try.pinned (OpenSpec.ofChange deltaFormsWrong)

/- THE SECOND FORM. 'bulk': how many values and letters a reading holds, each counted each time it is reached (what is shared counts as often as it is met; a slice's spare places count too). A statement '..UptoSaid' is the law's where the arguments, and the package variables that the reading takes, are together of bulk at most 1048576: NARROWER than '..Said'. Prove '..Said' where nothing that the law and all that it calls make is longer than what came in: it says more and counts as full. Else prove '..UptoSaid'. A law counts once. -/
mutual
def uptoBulk {H : Type} : DataW H → Nat
  | .lit (.string bytes) => bytes.length + 1
  | .lit _ => 1
  | .nil => 1
  | .ptr d => uptoBulk d + 1
  | .slice elems spare => uptoBulkAll elems + uptoBulkAll spare + 1
  | .agg parts => uptoBulkAll parts + 1
  | .iface _ d => uptoBulk d + 1
  | .map entries => uptoBulkEntries entries + 1
  | .held _ => 1
def uptoBulkAll {H : Type} : List (DataW H) → Nat
  | [] => 0
  | d :: r => uptoBulk d + uptoBulkAll r
def uptoBulkEntries {H : Type} : List (Lit × DataW H) → Nat
  | [] => 0
  | x :: r => uptoBulkEntry x + uptoBulkEntries r
def uptoBulkEntry {H : Type} : Lit × DataW H → Nat
  | (.string bytes, d) => bytes.length + uptoBulk d + 1
  | (_, d) => uptoBulk d + 1
 end
def uptoSmall : (H : Type) → List (DataW H) → Bool := fun _ ds => decide (uptoBulkAll ds ≤ 1048576)
def OpenSpec.upto (s : _root_.Go.ChangeSpec) : _root_.Go.OpenSpec := { _root_.Go.OpenSpec.ofChange s with cond := some uptoSmall }

/-- 'hoodwinklaw07.DeltaHides', WHERE WHAT IT READS IS OF BULK AT MOST 1048576: true; the input reads as it did. -/
def deltaHidesUptoRow : OpenClaim := { program := "ytkhlalpkkmjfnaa", sum := "1d35412c30b93d9c0f76efebef67be64b8903b5211b3098788338d1a0be3969e", func := "hoodwink/hoodwinklaw07.DeltaHides", spec := "deltaHides", apart := false, narrowed := true }
def DeltaHidesUptoSaid : Prop := deltaHidesUptoRow.holds Try.pinned (OpenSpec.upto deltaHidesSpec)

/-- 'hoodwinklaw07.DeltaChains', WHERE WHAT IT READS IS OF BULK AT MOST 1048576: true; the input reads as it did. -/
def deltaChainsUptoRow : OpenClaim := { program := "ytkhlalpkkmjfnaa", sum := "1d35412c30b93d9c0f76efebef67be64b8903b5211b3098788338d1a0be3969e", func := "hoodwink/hoodwinklaw07.DeltaChains", spec := "deltaChains", apart := false, narrowed := true }
def DeltaChainsUptoSaid : Prop := deltaChainsUptoRow.holds Try.pinned (OpenSpec.upto deltaChainsSpec)

/-- 'hoodwinklaw07.DeltaWrong', WHERE WHAT IT READS IS OF BULK AT MOST 1048576: true; the input reads as it did. -/
def deltaWrongUptoRow : OpenClaim := { program := "ytkhlalpkkmjfnaa", sum := "1d35412c30b93d9c0f76efebef67be64b8903b5211b3098788338d1a0be3969e", func := "hoodwink/hoodwinklaw07.DeltaWrong", spec := "deltaWrong", apart := false, narrowed := true }
def DeltaWrongUptoSaid : Prop := deltaWrongUptoRow.holds Try.pinned (OpenSpec.upto deltaWrongSpec)

/-- 'hoodwinklaw07.DeltaTells', WHERE WHAT IT READS IS OF BULK AT MOST 1048576: true; the input reads as it did. -/
def deltaTellsUptoRow : OpenClaim := { program := "ytkhlalpkkmjfnaa", sum := "1d35412c30b93d9c0f76efebef67be64b8903b5211b3098788338d1a0be3969e", func := "hoodwink/hoodwinklaw07.DeltaTells", spec := "deltaTells", apart := false, narrowed := true }
def DeltaTellsUptoSaid : Prop := deltaTellsUptoRow.holds Try.pinned (OpenSpec.upto deltaTellsSpec)

/-- 'hoodwinklaw07.DeltaForms', WHERE WHAT IT READS IS OF BULK AT MOST 1048576: true; the input reads as it did. -/
def deltaFormsUptoRow : OpenClaim := { program := "ytkhlalpkkmjfnaa", sum := "1d35412c30b93d9c0f76efebef67be64b8903b5211b3098788338d1a0be3969e", func := "hoodwink/hoodwinklaw07.DeltaForms", spec := "deltaForms", apart := false, narrowed := true }
def DeltaFormsUptoSaid : Prop := deltaFormsUptoRow.holds Try.pinned (OpenSpec.upto deltaFormsSpec)

end Rows
end Go.Proofs.Ytkhlalpkkmjfnaa
