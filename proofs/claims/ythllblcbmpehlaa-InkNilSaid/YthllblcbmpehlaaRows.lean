/-
  No cell of these rows narrows 'for every input' (looked for: loops, veiled, ifaces, maps, wideKeys, modest, calm, conditions, laid).
  DERIVED. THE GIVEN ROWS OF THIS SEAT. 6 by the template 'for every input the law returns true; each argument reads behind the call as it read before'; 0 by the template 'total and deterministic' (their statements: YthllblcbmpehlaaTotals.lean).
  GIVEN WITH THE SEED: the statements are not yours to turn. If you find one false, say at which input.
  Laid BY PROGRAM, IN A SANDBOX (cutbox-rows.mjs): the forced cells as the released guide's own fill.sh prints them over the translation f0aead49f4c8c0f8… (all of the seat's roots in one cut). By AI agents, Wed Nov 11 2026. No macro, syntax, notation, axiom, sorry.
-/
import Derived.Test.YthllblcbmpehlaaChecked
import GoSem.Claim
import GoSem.ClaimJoined
import GoSem.ClaimMapViews
import Derived.JoinedTies
import Derived.KernelRfl
namespace Go.Proofs.Ythllblcbmpehlaa
/- THE CELL 'sum', in the pinned program and in every row, IS THE sha256 OF THE DUMP (.gsa) THAT YthllblcbmpehlaaProg.lean LOADS. Nothing in Lean hashes anything: it is a label: what it is worth is what the hold of that sum in a sandbox is worth. -/
noncomputable def Try.pinned : Pinned := { name := "ythllblcbmpehlaa", sum := "f0aead49f4c8c0f815b687fb3d637f38f7e2dc9db5d950b89bbb01f29575cceb", checked := Try.checked }
namespace Rows
def none {H : Type} : Left H := { results := [], args := [] }

/-- 'hoodwinklaw01.InkParts': WHATEVER THE INPUT: true; the input reads as it did. -/
def inkPartsSpec : ChangeSpec := { name := "inkParts", fn := fun _ => fun
  | [d1, d2] => { results := [.lit (.bool true)], args := [d1, d2] }
  | _ => none }
def inkPartsRow : OpenClaim := { program := "ythllblcbmpehlaa", sum := "f0aead49f4c8c0f815b687fb3d637f38f7e2dc9db5d950b89bbb01f29575cceb", func := "hoodwink/hoodwinklaw01.InkParts", spec := "inkParts", apart := false }
def InkPartsSaid : Prop := inkPartsRow.holds Try.pinned (OpenSpec.ofChange inkPartsSpec)

/-- ITS FALSE NEIGHBOUR: 'it returns false'. Refute it at one input. -/
def inkPartsWrong : ChangeSpec := { name := "inkParts", fn := fun _ => fun
  | [d1, d2] => { results := [.lit (.bool false)], args := [d1, d2] }
  | _ => none }
def InkPartsWrongFalsely : Prop := inkPartsRow.holds Try.pinned (OpenSpec.ofChange inkPartsWrong)

/-- 'hoodwinklaw01.InkSizes': WHATEVER THE INPUT: true; the input reads as it did. -/
def inkSizesSpec : ChangeSpec := { name := "inkSizes", fn := fun _ => fun
  | [d1, d2] => { results := [.lit (.bool true)], args := [d1, d2] }
  | _ => none }
def inkSizesRow : OpenClaim := { program := "ythllblcbmpehlaa", sum := "f0aead49f4c8c0f815b687fb3d637f38f7e2dc9db5d950b89bbb01f29575cceb", func := "hoodwink/hoodwinklaw01.InkSizes", spec := "inkSizes", apart := false }
def InkSizesSaid : Prop := inkSizesRow.holds Try.pinned (OpenSpec.ofChange inkSizesSpec)

/-- ITS FALSE NEIGHBOUR: 'it returns false'. Refute it at one input. -/
def inkSizesWrong : ChangeSpec := { name := "inkSizes", fn := fun _ => fun
  | [d1, d2] => { results := [.lit (.bool false)], args := [d1, d2] }
  | _ => none }
def InkSizesWrongFalsely : Prop := inkSizesRow.holds Try.pinned (OpenSpec.ofChange inkSizesWrong)

/-- 'hoodwinklaw01.InkOne': WHATEVER THE INPUT: true; the input reads as it did. -/
def inkOneSpec : ChangeSpec := { name := "inkOne", fn := fun _ => fun
  | [d1, d2] => { results := [.lit (.bool true)], args := [d1, d2] }
  | _ => none }
def inkOneRow : OpenClaim := { program := "ythllblcbmpehlaa", sum := "f0aead49f4c8c0f815b687fb3d637f38f7e2dc9db5d950b89bbb01f29575cceb", func := "hoodwink/hoodwinklaw01.InkOne", spec := "inkOne", apart := false }
def InkOneSaid : Prop := inkOneRow.holds Try.pinned (OpenSpec.ofChange inkOneSpec)

/-- ITS FALSE NEIGHBOUR: 'it returns false'. Refute it at one input. -/
def inkOneWrong : ChangeSpec := { name := "inkOne", fn := fun _ => fun
  | [d1, d2] => { results := [.lit (.bool false)], args := [d1, d2] }
  | _ => none }
def InkOneWrongFalsely : Prop := inkOneRow.holds Try.pinned (OpenSpec.ofChange inkOneWrong)

/-- 'hoodwinklaw01.InkTakes': WHATEVER THE INPUT: true; the input reads as it did. -/
def inkTakesSpec : ChangeSpec := { name := "inkTakes", fn := fun _ => fun
  | [d1, d2] => { results := [.lit (.bool true)], args := [d1, d2] }
  | _ => none }
def inkTakesRow : OpenClaim := { program := "ythllblcbmpehlaa", sum := "f0aead49f4c8c0f815b687fb3d637f38f7e2dc9db5d950b89bbb01f29575cceb", func := "hoodwink/hoodwinklaw01.InkTakes", spec := "inkTakes", apart := false }
def InkTakesSaid : Prop := inkTakesRow.holds Try.pinned (OpenSpec.ofChange inkTakesSpec)

/-- ITS FALSE NEIGHBOUR: 'it returns false'. Refute it at one input. -/
def inkTakesWrong : ChangeSpec := { name := "inkTakes", fn := fun _ => fun
  | [d1, d2] => { results := [.lit (.bool false)], args := [d1, d2] }
  | _ => none }
def InkTakesWrongFalsely : Prop := inkTakesRow.holds Try.pinned (OpenSpec.ofChange inkTakesWrong)

/-- 'hoodwinklaw01.InkLays': WHATEVER THE INPUT: true; the input reads as it did. -/
def inkLaysSpec : ChangeSpec := { name := "inkLays", fn := fun _ => fun
  | [d] => { results := [.lit (.bool true)], args := [d] }
  | _ => none }
def inkLaysRow : OpenClaim := { program := "ythllblcbmpehlaa", sum := "f0aead49f4c8c0f815b687fb3d637f38f7e2dc9db5d950b89bbb01f29575cceb", func := "hoodwink/hoodwinklaw01.InkLays", spec := "inkLays", recurses := true, apart := false }
def InkLaysSaid : Prop := inkLaysRow.holds Try.pinned (OpenSpec.ofChange inkLaysSpec)

/-- ITS FALSE NEIGHBOUR: 'it returns false'. Refute it at one input. -/
def inkLaysWrong : ChangeSpec := { name := "inkLays", fn := fun _ => fun
  | [d] => { results := [.lit (.bool false)], args := [d] }
  | _ => none }
def InkLaysWrongFalsely : Prop := inkLaysRow.holds Try.pinned (OpenSpec.ofChange inkLaysWrong)

/-- 'hoodwinklaw01.InkNil': WHATEVER THE INPUT: true; the input reads as it did. -/
def inkNilSpec : ChangeSpec := { name := "inkNil", fn := fun _ => fun
  | [d1, d2] => { results := [.lit (.bool true)], args := [d1, d2] }
  | _ => none }
def inkNilRow : OpenClaim := { program := "ythllblcbmpehlaa", sum := "f0aead49f4c8c0f815b687fb3d637f38f7e2dc9db5d950b89bbb01f29575cceb", func := "hoodwink/hoodwinklaw01.InkNil", spec := "inkNil", recurses := true, apart := false }
def InkNilSaid : Prop := inkNilRow.holds Try.pinned (OpenSpec.ofChange inkNilSpec)

/-- ITS FALSE NEIGHBOUR: 'it returns false'. Refute it at one input. -/
def inkNilWrong : ChangeSpec := { name := "inkNil", fn := fun _ => fun
  | [d1, d2] => { results := [.lit (.bool false)], args := [d1, d2] }
  | _ => none }
def InkNilWrongFalsely : Prop := inkNilRow.holds Try.pinned (OpenSpec.ofChange inkNilWrong)

/- THE SECOND FORM. 'bulk': how many values and letters a reading holds, each counted each time it is reached (what is shared counts as often as it is met; a slice's spare places count too). A statement '..UptoSaid' is the law's where the arguments, and the package variables that the reading takes, are together of bulk at most 1048576: NARROWER than '..Said'. Prove '..Said' where nothing that the law and all that it calls make is longer than what came in: it says more and counts as full. Else prove '..UptoSaid'. A law counts once. -/
mutual
def uptoBulk {H : Type} : DataW H → Nat
  | .lit (.string bytes) => bytes.length + 1
  | .lit _ => 1
  | .nil => 1
  | .ptr d => uptoBulk d + 1
  | .slice elems spare => uptoBulkAll elems + uptoBulkAll spare + 1
  | .agg parts => uptoBulkAll parts + 1
  | .iface _ d => uptoBulk d + 1
  | .map entries => uptoBulkEntries entries + 1
  | .held _ => 1
def uptoBulkAll {H : Type} : List (DataW H) → Nat
  | [] => 0
  | d :: r => uptoBulk d + uptoBulkAll r
def uptoBulkEntries {H : Type} : List (Lit × DataW H) → Nat
  | [] => 0
  | x :: r => uptoBulkEntry x + uptoBulkEntries r
def uptoBulkEntry {H : Type} : Lit × DataW H → Nat
  | (.string bytes, d) => bytes.length + uptoBulk d + 1
  | (_, d) => uptoBulk d + 1
 end
def uptoSmall : (H : Type) → List (DataW H) → Bool := fun _ ds => decide (uptoBulkAll ds ≤ 1048576)
def OpenSpec.upto (s : _root_.Go.ChangeSpec) : _root_.Go.OpenSpec := { _root_.Go.OpenSpec.ofChange s with cond := some uptoSmall }

/-- 'hoodwinklaw01.InkParts', WHERE WHAT IT READS IS OF BULK AT MOST 1048576: true; the input reads as it did. -/
def inkPartsUptoRow : OpenClaim := { program := "ythllblcbmpehlaa", sum := "f0aead49f4c8c0f815b687fb3d637f38f7e2dc9db5d950b89bbb01f29575cceb", func := "hoodwink/hoodwinklaw01.InkParts", spec := "inkParts", apart := false, narrowed := true }
def InkPartsUptoSaid : Prop := inkPartsUptoRow.holds Try.pinned (OpenSpec.upto inkPartsSpec)

/-- 'hoodwinklaw01.InkSizes', WHERE WHAT IT READS IS OF BULK AT MOST 1048576: true; the input reads as it did. -/
def inkSizesUptoRow : OpenClaim := { program := "ythllblcbmpehlaa", sum := "f0aead49f4c8c0f815b687fb3d637f38f7e2dc9db5d950b89bbb01f29575cceb", func := "hoodwink/hoodwinklaw01.InkSizes", spec := "inkSizes", apart := false, narrowed := true }
def InkSizesUptoSaid : Prop := inkSizesUptoRow.holds Try.pinned (OpenSpec.upto inkSizesSpec)

/-- 'hoodwinklaw01.InkOne', WHERE WHAT IT READS IS OF BULK AT MOST 1048576: true; the input reads as it did. -/
def inkOneUptoRow : OpenClaim := { program := "ythllblcbmpehlaa", sum := "f0aead49f4c8c0f815b687fb3d637f38f7e2dc9db5d950b89bbb01f29575cceb", func := "hoodwink/hoodwinklaw01.InkOne", spec := "inkOne", apart := false, narrowed := true }
def InkOneUptoSaid : Prop := inkOneUptoRow.holds Try.pinned (OpenSpec.upto inkOneSpec)

/-- 'hoodwinklaw01.InkTakes', WHERE WHAT IT READS IS OF BULK AT MOST 1048576: true; the input reads as it did. -/
def inkTakesUptoRow : OpenClaim := { program := "ythllblcbmpehlaa", sum := "f0aead49f4c8c0f815b687fb3d637f38f7e2dc9db5d950b89bbb01f29575cceb", func := "hoodwink/hoodwinklaw01.InkTakes", spec := "inkTakes", apart := false, narrowed := true }
def InkTakesUptoSaid : Prop := inkTakesUptoRow.holds Try.pinned (OpenSpec.upto inkTakesSpec)

/-- 'hoodwinklaw01.InkLays', WHERE WHAT IT READS IS OF BULK AT MOST 1048576: true; the input reads as it did. -/
def inkLaysUptoRow : OpenClaim := { program := "ythllblcbmpehlaa", sum := "f0aead49f4c8c0f815b687fb3d637f38f7e2dc9db5d950b89bbb01f29575cceb", func := "hoodwink/hoodwinklaw01.InkLays", spec := "inkLays", recurses := true, apart := false, narrowed := true }
def InkLaysUptoSaid : Prop := inkLaysUptoRow.holds Try.pinned (OpenSpec.upto inkLaysSpec)

/-- 'hoodwinklaw01.InkNil', WHERE WHAT IT READS IS OF BULK AT MOST 1048576: true; the input reads as it did. -/
def inkNilUptoRow : OpenClaim := { program := "ythllblcbmpehlaa", sum := "f0aead49f4c8c0f815b687fb3d637f38f7e2dc9db5d950b89bbb01f29575cceb", func := "hoodwink/hoodwinklaw01.InkNil", spec := "inkNil", recurses := true, apart := false, narrowed := true }
def InkNilUptoSaid : Prop := inkNilUptoRow.holds Try.pinned (OpenSpec.upto inkNilSpec)

end Rows
end Go.Proofs.Ythllblcbmpehlaa
