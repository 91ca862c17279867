/- The library's tables, out of the row's condition. -/
import Derived.Test.YthimlgkegobaeaaDoorCa
import Derived.Test.YthimlgkegobaeaaDoorRows
import Derived.Lib.LaidTab
import Derived.Lib.LaidU8
import Derived.ProofKit
import Derived.LaidMore
import Derived.OpenShut
import Derived.Stop.Joined
namespace Go.Proofs.YthimlgkegobaeaaDoor
open Go.ChangeShapes Go.WideShapes Go.ChangeAt Go.WideMaps Go.WideElems Go.RowKit

theorem tabIs_of_mem {P : Program} {W : World} {name : String} {k : IntKind} {zs : List Int} {l : List (String × DataW Unit)} {g : Nat} {t e : TypeId} {n : Nat}
    (hg : P.globalNamed name = some g) (hty : (P.globals[g]?).map (·.type) = some t) (ht : P.underlying t = some (.array n e)) (he : P.underlying e = some (.int k)) (hce : P.cellsOf e = 1) (hct : P.cellsOf t = n)
    (hm : (name, Lib.tabData k zs) ∈ l) (h : laidMet P l W) : Lib.TabIs P W name k zs := by
  obtain ⟨g', t', cs, fuel, p, hg', ht', hvar, hd⟩ := Lib.laidMet.reads h hm
  obtain rfl := Option.some.inj (hg.symm.trans hg')
  obtain rfl := Option.some.inj (hty.symm.trans ht')
  unfold Lib.TabIs
  rw [hvar, ← Lib.cells_of_tab ht he hce hct hd]
theorem bru_list : Lib.tabData (H := Unit) .u8 [0, 1, 28, 2, 29, 14, 24, 3, 30, 22, 20, 15, 25, 17, 4, 8, 31, 27, 13, 23, 21, 19, 16, 7, 26, 12, 18, 6, 11, 5, 10, 9] = Rows.laid_math_bits_deBruijn32tab := rfl
theorem bru_same : ∀ j, j < 32 → ([0, 1, 28, 2, 29, 14, 24, 3, 30, 22, 20, 15, 25, 17, 4, 8, 31, 27, 13, 23, 21, 19, 16, 7, 26, 12, 18, 6, 11, 5, 10, 9] : List Int).getD j 0 = ((Lib.deBruijn32tab.getD j 0 : Nat) : Int) := by decide +kernel
theorem asc_list : Lib.tabData (H := Unit) .u8 Lib.asciiSpaceTab = Rows.laid_strings_asciiSpace := by kernel_rfl
theorem pow_list : Lib.tabData (H := Unit) .u64 Lib.pow10Tab = Rows.laid_internal_strconv_uint64pow10 := by kernel_rfl
theorem ctab_of {W : World} {l : List (String × DataW Unit)} (h : laidMet Tryd.prog l W) (h1 : ("math/bits.deBruijn32tab", Rows.laid_math_bits_deBruijn32tab) ∈ l) (h2 : ("strings.asciiSpace", Rows.laid_strings_asciiSpace) ∈ l) (h3 : ("internal/strconv.uint64pow10", Rows.laid_internal_strconv_uint64pow10) ∈ l) : CTab W := by
  rw [← bru_list] at h1
  rw [← asc_list] at h2
  rw [← pow_list] at h3
  have t1 := tabIs_of_mem (g := 2) (t := 158) (e := 5) (n := 32) (by kernel_rfl) (by kernel_rfl) Tryd.underlying158 Tryd.underlying5 (by kernel_rfl) (by kernel_rfl) h1 h
  have t2 := tabIs_of_mem (g := 0) (t := 119) (e := 5) (n := 256) (by kernel_rfl) (by kernel_rfl) Tryd.underlying119 Tryd.underlying5 (by kernel_rfl) (by kernel_rfl) h2 h
  have t3 := tabIs_of_mem (g := 5) (t := 181) (e := 86) (n := 20) (by kernel_rfl) (by kernel_rfl) Tryd.underlying181 Tryd.underlying86 (by kernel_rfl) (by kernel_rfl) h3 h
  refine ⟨?_, tabIs_lt t1 gBru, t2, t3⟩
  intro j hj
  have hc := t1.cell gBru j hj
  rw [bru_same j hj] at hc
  exact hc
/-- WHAT THE CONDITION GIVES THE WALKS. -/
theorem tab_of_laid {W : World} (h : laidMetH Tryd.prog [("math/bits.deBruijn32tab", Rows.laid_math_bits_deBruijn32tab), ("math/bits.deBruijn64tab", Rows.laid_math_bits_deBruijn64tab), ("internal/strconv.uint64pow10", Rows.laid_internal_strconv_uint64pow10), ("unicode.White_Space", Rows.laid_unicode_White_Space), ("strings.asciiSpace", Rows.laid_strings_asciiSpace)] W) : CTab W := by
  rw [MakeChecks.laidMetH_plain _ _ _ (by kernel_rfl)] at h
  exact ctab_of h (by simp) (by simp) (by simp)
/-- The door's own heap meets the condition. -/
theorem door_met (os : Os) (args : Array Value) : laidMetH Tryd.prog [("math/bits.deBruijn32tab", Rows.laid_math_bits_deBruijn32tab), ("math/bits.deBruijn64tab", Rows.laid_math_bits_deBruijn64tab), ("internal/strconv.uint64pow10", Rows.laid_internal_strconv_uint64pow10), ("unicode.White_Space", Rows.laid_unicode_White_Space), ("strings.asciiSpace", Rows.laid_strings_asciiSpace)] ((World.doorLaid Tryd.prog 400 os).forCall (fun _ _ => 0) ⟨#[], args, []⟩).memory :=
  laidMetH_of_parts3 (fuel := 8) (laidMet_of_run' 8 (by kernel_rfl) (by kernel_rfl)) (by kernel_rfl) (by kernel_rfl)
end Go.Proofs.YthimlgkegobaeaaDoor
