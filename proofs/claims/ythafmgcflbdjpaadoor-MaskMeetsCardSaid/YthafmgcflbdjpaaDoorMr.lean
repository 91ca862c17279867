/- The library's table, out of the row's condition. -/
import Derived.Test.YthafmgcflbdjpaaDoorMe
import Derived.Test.YthafmgcflbdjpaaDoorRows
import Derived.Lib.LaidTab
import Derived.ProofKit
import Derived.LaidMore
import Derived.OpenShut
import Derived.Stop.Joined
namespace Go.Proofs.YthafmgcflbdjpaaDoor
open Go.ChangeShapes Go.WideShapes Go.ChangeAt Go.WideMaps Go.WideElems Go.RowKit

theorem tab_list : Lib.tabData (H := Unit) .u8 [0, 1, 28, 2, 29, 14, 24, 3, 30, 22, 20, 15, 25, 17, 4, 8, 31, 27, 13, 23, 21, 19, 16, 7, 26, 12, 18, 6, 11, 5, 10, 9] = Rows.laid_math_bits_deBruijn32tab := rfl
theorem tab_same : ∀ j, j < 32 → ([0, 1, 28, 2, 29, 14, 24, 3, 30, 22, 20, 15, 25, 17, 4, 8, 31, 27, 13, 23, 21, 19, 16, 7, 26, 12, 18, 6, 11, 5, 10, 9] : List Int).getD j 0 = ((Lib.deBruijn32tab.getD j 0 : Nat) : Int) := by decide +kernel
/-- WHAT THE CONDITION GIVES THE WALKS. -/
theorem tab_of_laid {W : World} (h : laidMetH Tryd.prog [("math/bits.deBruijn32tab", Rows.laid_math_bits_deBruijn32tab), ("math/bits.deBruijn64tab", Rows.laid_math_bits_deBruijn64tab), ("internal/strconv.uint64pow10", Rows.laid_internal_strconv_uint64pow10)] W) : Tabs W := by
  rw [MakeChecks.laidMetH_plain _ _ _ (by kernel_rfl), ← tab_list] at h
  have hT := Lib.tabIs_of_head (g := 0) (t := 65) (e := 5) (n := 32) (by kernel_rfl) (by kernel_rfl) Tryd.underlying65 Tryd.underlying5 (by kernel_rfl) (by kernel_rfl) h
  have hA : TabAt W := by
    intro j hj
    have hc := hT.cell (show Tryd.prog.globalNamed "math/bits.deBruijn32tab" = some 0 by kernel_rfl) j hj
    rw [tab_same j hj] at hc
    exact hc
  refine ⟨hA, ?_⟩
  have h0 := hA 0 (by omega)
  by_cases e : 0 < W.heap.size
  · exact e
  · exfalso
    have e0 : W.heap[0]? = none := Array.getElem?_eq_none (by omega)
    simp [World.cell?, e0] at h0
/-- The door's own heap meets the condition. -/
theorem door_met (os : Os) (args : Array Value) : laidMetH Tryd.prog [("math/bits.deBruijn32tab", Rows.laid_math_bits_deBruijn32tab), ("math/bits.deBruijn64tab", Rows.laid_math_bits_deBruijn64tab), ("internal/strconv.uint64pow10", Rows.laid_internal_strconv_uint64pow10)] ((World.doorLaid Tryd.prog 400 os).forCall (fun _ _ => 0) ⟨#[], args, []⟩).memory :=
  laidMetH_of_parts3 (fuel := 8) (laidMet_of_run' 8 (by kernel_rfl) (by kernel_rfl)) (by kernel_rfl) (by kernel_rfl)
end Go.Proofs.YthafmgcflbdjpaaDoor
