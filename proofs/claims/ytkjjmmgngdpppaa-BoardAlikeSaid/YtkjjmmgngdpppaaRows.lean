/-
  No cell of these rows narrows 'for every input' (looked for: loops, veiled, ifaces, maps, wideKeys, modest, calm, conditions, laid).
  DERIVED. THE GIVEN ROWS OF THIS SEAT. 7 by the template 'for every input the law returns true; each argument reads behind the call as it read before'; 0 by the template 'total and deterministic' (their statements: YtkjjmmgngdpppaaTotals.lean).
  GIVEN WITH THE SEED: the statements are not yours to turn. If you find one false, say at which input.
  Laid BY PROGRAM, IN A SANDBOX (cutbox-rows.mjs): the forced cells as the released guide's own fill.sh prints them over the translation 3c8ea115d419d946… (all of the seat's roots in one cut). By AI agents, Wed Nov 11 2026. No macro, syntax, notation, axiom, sorry.
-/
import Derived.Test.YtkjjmmgngdpppaaChecked
import GoSem.Claim
import GoSem.ClaimJoined
import GoSem.ClaimMapViews
import Derived.JoinedTies
import Derived.KernelRfl
namespace Go.Proofs.Ytkjjmmgngdpppaa
/- THE CELL 'sum', in the pinned program and in every row, IS THE sha256 OF THE DUMP (.gsa) THAT YtkjjmmgngdpppaaProg.lean LOADS. Nothing in Lean hashes anything: it is a label: what it is worth is what the hold of that sum in a sandbox is worth. -/
noncomputable def Try.pinned : Pinned := { name := "ytkjjmmgngdpppaa", sum := "3c8ea115d419d9464515faca724d38744751c4dfd7169b335dd847513269d21e", checked := Try.checked }
namespace Rows
def none {H : Type} : Left H := { results := [], args := [] }

/-- 'hoodwinklaw06.BoardFull': WHATEVER THE INPUT: true; the input reads as it did. -/
def boardFullSpec : ChangeSpec := { name := "boardFull", fn := fun _ => fun
  | [d1, d2] => { results := [.lit (.bool true)], args := [d1, d2] }
  | _ => none }
def boardFullRow : OpenClaim := { program := "ytkjjmmgngdpppaa", sum := "3c8ea115d419d9464515faca724d38744751c4dfd7169b335dd847513269d21e", func := "hoodwink/hoodwinklaw06.BoardFull", spec := "boardFull", apart := false }
def BoardFullSaid : Prop := boardFullRow.holds Try.pinned (OpenSpec.ofChange boardFullSpec)

/-- ITS FALSE NEIGHBOUR: 'it returns false'. Refute it at one input. -/
def boardFullWrong : ChangeSpec := { name := "boardFull", fn := fun _ => fun
  | [d1, d2] => { results := [.lit (.bool false)], args := [d1, d2] }
  | _ => none }
def BoardFullWrongFalsely : Prop := boardFullRow.holds Try.pinned (OpenSpec.ofChange boardFullWrong)

/-- 'hoodwinklaw06.BoardShows': WHATEVER THE INPUT: true; the input reads as it did. -/
def boardShowsSpec : ChangeSpec := { name := "boardShows", fn := fun _ => fun
  | [d1, d2, d3, d4] => { results := [.lit (.bool true)], args := [d1, d2, d3, d4] }
  | _ => none }
def boardShowsRow : OpenClaim := { program := "ytkjjmmgngdpppaa", sum := "3c8ea115d419d9464515faca724d38744751c4dfd7169b335dd847513269d21e", func := "hoodwink/hoodwinklaw06.BoardShows", spec := "boardShows", apart := false }
def BoardShowsSaid : Prop := boardShowsRow.holds Try.pinned (OpenSpec.ofChange boardShowsSpec)

/-- ITS FALSE NEIGHBOUR: 'it returns false'. Refute it at one input. -/
def boardShowsWrong : ChangeSpec := { name := "boardShows", fn := fun _ => fun
  | [d1, d2, d3, d4] => { results := [.lit (.bool false)], args := [d1, d2, d3, d4] }
  | _ => none }
def BoardShowsWrongFalsely : Prop := boardShowsRow.holds Try.pinned (OpenSpec.ofChange boardShowsWrong)

/-- 'hoodwinklaw06.BoardPuts': WHATEVER THE INPUT: true; the input reads as it did. -/
def boardPutsSpec : ChangeSpec := { name := "boardPuts", fn := fun _ => fun
  | [d1, d2, d3, d4] => { results := [.lit (.bool true)], args := [d1, d2, d3, d4] }
  | _ => none }
def boardPutsRow : OpenClaim := { program := "ytkjjmmgngdpppaa", sum := "3c8ea115d419d9464515faca724d38744751c4dfd7169b335dd847513269d21e", func := "hoodwink/hoodwinklaw06.BoardPuts", spec := "boardPuts", apart := false }
def BoardPutsSaid : Prop := boardPutsRow.holds Try.pinned (OpenSpec.ofChange boardPutsSpec)

/-- ITS FALSE NEIGHBOUR: 'it returns false'. Refute it at one input. -/
def boardPutsWrong : ChangeSpec := { name := "boardPuts", fn := fun _ => fun
  | [d1, d2, d3, d4] => { results := [.lit (.bool false)], args := [d1, d2, d3, d4] }
  | _ => none }
def BoardPutsWrongFalsely : Prop := boardPutsRow.holds Try.pinned (OpenSpec.ofChange boardPutsWrong)

/-- 'hoodwinklaw06.BoardAlike': WHATEVER THE INPUT: true; the input reads as it did. -/
def boardAlikeSpec : ChangeSpec := { name := "boardAlike", fn := fun _ => fun
  | [d1, d2, d3, d4] => { results := [.lit (.bool true)], args := [d1, d2, d3, d4] }
  | _ => none }
def boardAlikeRow : OpenClaim := { program := "ytkjjmmgngdpppaa", sum := "3c8ea115d419d9464515faca724d38744751c4dfd7169b335dd847513269d21e", func := "hoodwink/hoodwinklaw06.BoardAlike", spec := "boardAlike", unfollowed := true, recurses := true, apart := false }
def BoardAlikeSaid : Prop := boardAlikeRow.holds Try.pinned (OpenSpec.ofChange boardAlikeSpec)

/-- ITS FALSE NEIGHBOUR: 'it returns false'. Refute it at one input. -/
def boardAlikeWrong : ChangeSpec := { name := "boardAlike", fn := fun _ => fun
  | [d1, d2, d3, d4] => { results := [.lit (.bool false)], args := [d1, d2, d3, d4] }
  | _ => none }
def BoardAlikeWrongFalsely : Prop := boardAlikeRow.holds Try.pinned (OpenSpec.ofChange boardAlikeWrong)

/-- 'hoodwinklaw06.BoardHashes': WHATEVER THE INPUT: true; the input reads as it did. -/
def boardHashesSpec : ChangeSpec := { name := "boardHashes", fn := fun _ => fun
  | [d1, d2, d3, d4] => { results := [.lit (.bool true)], args := [d1, d2, d3, d4] }
  | _ => none }
def boardHashesRow : OpenClaim := { program := "ytkjjmmgngdpppaa", sum := "3c8ea115d419d9464515faca724d38744751c4dfd7169b335dd847513269d21e", func := "hoodwink/hoodwinklaw06.BoardHashes", spec := "boardHashes", apart := false }
def BoardHashesSaid : Prop := boardHashesRow.holds Try.pinned (OpenSpec.ofChange boardHashesSpec)

/-- ITS FALSE NEIGHBOUR: 'it returns false'. Refute it at one input. -/
def boardHashesWrong : ChangeSpec := { name := "boardHashes", fn := fun _ => fun
  | [d1, d2, d3, d4] => { results := [.lit (.bool false)], args := [d1, d2, d3, d4] }
  | _ => none }
def BoardHashesWrongFalsely : Prop := boardHashesRow.holds Try.pinned (OpenSpec.ofChange boardHashesWrong)

/-- 'hoodwinklaw06.BoardViews': WHATEVER THE INPUT: true; the input reads as it did. -/
def boardViewsSpec : ChangeSpec := { name := "boardViews", fn := fun _ => fun
  | [d1, d2, d3] => { results := [.lit (.bool true)], args := [d1, d2, d3] }
  | _ => none }
def boardViewsRow : OpenClaim := { program := "ytkjjmmgngdpppaa", sum := "3c8ea115d419d9464515faca724d38744751c4dfd7169b335dd847513269d21e", func := "hoodwink/hoodwinklaw06.BoardViews", spec := "boardViews", apart := false }
def BoardViewsSaid : Prop := boardViewsRow.holds Try.pinned (OpenSpec.ofChange boardViewsSpec)

/-- ITS FALSE NEIGHBOUR: 'it returns false'. Refute it at one input. -/
def boardViewsWrong : ChangeSpec := { name := "boardViews", fn := fun _ => fun
  | [d1, d2, d3] => { results := [.lit (.bool false)], args := [d1, d2, d3] }
  | _ => none }
def BoardViewsWrongFalsely : Prop := boardViewsRow.holds Try.pinned (OpenSpec.ofChange boardViewsWrong)

/-- 'hoodwinklaw06.BoardTells': WHATEVER THE INPUT: true; the input reads as it did. -/
def boardTellsSpec : ChangeSpec := { name := "boardTells", fn := fun _ => fun
  | [d1, d2, d3] => { results := [.lit (.bool true)], args := [d1, d2, d3] }
  | _ => none }
def boardTellsRow : OpenClaim := { program := "ytkjjmmgngdpppaa", sum := "3c8ea115d419d9464515faca724d38744751c4dfd7169b335dd847513269d21e", func := "hoodwink/hoodwinklaw06.BoardTells", spec := "boardTells", apart := false }
def BoardTellsSaid : Prop := boardTellsRow.holds Try.pinned (OpenSpec.ofChange boardTellsSpec)

/-- ITS FALSE NEIGHBOUR: 'it returns false'. Refute it at one input. -/
def boardTellsWrong : ChangeSpec := { name := "boardTells", fn := fun _ => fun
  | [d1, d2, d3] => { results := [.lit (.bool false)], args := [d1, d2, d3] }
  | _ => none }
def BoardTellsWrongFalsely : Prop := boardTellsRow.holds Try.pinned (OpenSpec.ofChange boardTellsWrong)

/- THE SECOND FORM. 'bulk': how many values and letters a reading holds, each counted each time it is reached (what is shared counts as often as it is met; a slice's spare places count too). A statement '..UptoSaid' is the law's where the arguments, and the package variables that the reading takes, are together of bulk at most 1048576: NARROWER than '..Said'. Prove '..Said' where nothing that the law and all that it calls make is longer than what came in: it says more and counts as full. Else prove '..UptoSaid'. A law counts once. -/
mutual
def uptoBulk {H : Type} : DataW H → Nat
  | .lit (.string bytes) => bytes.length + 1
  | .lit _ => 1
  | .nil => 1
  | .ptr d => uptoBulk d + 1
  | .slice elems spare => uptoBulkAll elems + uptoBulkAll spare + 1
  | .agg parts => uptoBulkAll parts + 1
  | .iface _ d => uptoBulk d + 1
  | .map entries => uptoBulkEntries entries + 1
  | .held _ => 1
def uptoBulkAll {H : Type} : List (DataW H) → Nat
  | [] => 0
  | d :: r => uptoBulk d + uptoBulkAll r
def uptoBulkEntries {H : Type} : List (Lit × DataW H) → Nat
  | [] => 0
  | x :: r => uptoBulkEntry x + uptoBulkEntries r
def uptoBulkEntry {H : Type} : Lit × DataW H → Nat
  | (.string bytes, d) => bytes.length + uptoBulk d + 1
  | (_, d) => uptoBulk d + 1
 end
def uptoSmall : (H : Type) → List (DataW H) → Bool := fun _ ds => decide (uptoBulkAll ds ≤ 1048576)
def OpenSpec.upto (s : _root_.Go.ChangeSpec) : _root_.Go.OpenSpec := { _root_.Go.OpenSpec.ofChange s with cond := some uptoSmall }

/-- 'hoodwinklaw06.BoardFull', WHERE WHAT IT READS IS OF BULK AT MOST 1048576: true; the input reads as it did. -/
def boardFullUptoRow : OpenClaim := { program := "ytkjjmmgngdpppaa", sum := "3c8ea115d419d9464515faca724d38744751c4dfd7169b335dd847513269d21e", func := "hoodwink/hoodwinklaw06.BoardFull", spec := "boardFull", apart := false, narrowed := true }
def BoardFullUptoSaid : Prop := boardFullUptoRow.holds Try.pinned (OpenSpec.upto boardFullSpec)

/-- 'hoodwinklaw06.BoardShows', WHERE WHAT IT READS IS OF BULK AT MOST 1048576: true; the input reads as it did. -/
def boardShowsUptoRow : OpenClaim := { program := "ytkjjmmgngdpppaa", sum := "3c8ea115d419d9464515faca724d38744751c4dfd7169b335dd847513269d21e", func := "hoodwink/hoodwinklaw06.BoardShows", spec := "boardShows", apart := false, narrowed := true }
def BoardShowsUptoSaid : Prop := boardShowsUptoRow.holds Try.pinned (OpenSpec.upto boardShowsSpec)

/-- 'hoodwinklaw06.BoardPuts', WHERE WHAT IT READS IS OF BULK AT MOST 1048576: true; the input reads as it did. -/
def boardPutsUptoRow : OpenClaim := { program := "ytkjjmmgngdpppaa", sum := "3c8ea115d419d9464515faca724d38744751c4dfd7169b335dd847513269d21e", func := "hoodwink/hoodwinklaw06.BoardPuts", spec := "boardPuts", apart := false, narrowed := true }
def BoardPutsUptoSaid : Prop := boardPutsUptoRow.holds Try.pinned (OpenSpec.upto boardPutsSpec)

/-- 'hoodwinklaw06.BoardAlike', WHERE WHAT IT READS IS OF BULK AT MOST 1048576: true; the input reads as it did. -/
def boardAlikeUptoRow : OpenClaim := { program := "ytkjjmmgngdpppaa", sum := "3c8ea115d419d9464515faca724d38744751c4dfd7169b335dd847513269d21e", func := "hoodwink/hoodwinklaw06.BoardAlike", spec := "boardAlike", unfollowed := true, recurses := true, apart := false, narrowed := true }
def BoardAlikeUptoSaid : Prop := boardAlikeUptoRow.holds Try.pinned (OpenSpec.upto boardAlikeSpec)

/-- 'hoodwinklaw06.BoardHashes', WHERE WHAT IT READS IS OF BULK AT MOST 1048576: true; the input reads as it did. -/
def boardHashesUptoRow : OpenClaim := { program := "ytkjjmmgngdpppaa", sum := "3c8ea115d419d9464515faca724d38744751c4dfd7169b335dd847513269d21e", func := "hoodwink/hoodwinklaw06.BoardHashes", spec := "boardHashes", apart := false, narrowed := true }
def BoardHashesUptoSaid : Prop := boardHashesUptoRow.holds Try.pinned (OpenSpec.upto boardHashesSpec)

/-- 'hoodwinklaw06.BoardViews', WHERE WHAT IT READS IS OF BULK AT MOST 1048576: true; the input reads as it did. -/
def boardViewsUptoRow : OpenClaim := { program := "ytkjjmmgngdpppaa", sum := "3c8ea115d419d9464515faca724d38744751c4dfd7169b335dd847513269d21e", func := "hoodwink/hoodwinklaw06.BoardViews", spec := "boardViews", apart := false, narrowed := true }
def BoardViewsUptoSaid : Prop := boardViewsUptoRow.holds Try.pinned (OpenSpec.upto boardViewsSpec)

/-- 'hoodwinklaw06.BoardTells', WHERE WHAT IT READS IS OF BULK AT MOST 1048576: true; the input reads as it did. -/
def boardTellsUptoRow : OpenClaim := { program := "ytkjjmmgngdpppaa", sum := "3c8ea115d419d9464515faca724d38744751c4dfd7169b335dd847513269d21e", func := "hoodwink/hoodwinklaw06.BoardTells", spec := "boardTells", apart := false, narrowed := true }
def BoardTellsUptoSaid : Prop := boardTellsUptoRow.holds Try.pinned (OpenSpec.upto boardTellsSpec)

end Rows
end Go.Proofs.Ytkjjmmgngdpppaa
