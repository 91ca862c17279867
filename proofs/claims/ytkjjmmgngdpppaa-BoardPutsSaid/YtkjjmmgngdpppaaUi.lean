/- Boards that are alike. -/
import Derived.Test.YtkjjmmgngdpppaaUh
namespace Go.Proofs.Ytkjjmmgngdpppaa
open Go.RowKit Go.Proofs.YtkjjmmgngdpppaaW.PrintWords Go.Proofs.YtkjjmmgngdpppaaW.PrintLast Go.Proofs.YtkjjmmgngdpppaaW.PrintMore
set_option linter.unusedVariables false
set_option linter.unusedSimpArgs false

theorem extract_get (xs : Array Value) (j : Nat) (hj : j < 96) (h : 96 ≤ xs.size) : (xs.extract 0 96)[j]? = xs[j]? := by
  rw [Array.getElem?_extract, if_pos (by omega), Nat.zero_add]
theorem part_row (w : World) (xs : Array Value) : (part 28 xs 0).run Try.prog w = .ok (.agg (xs.extract 0 96)) w := by
  obtain ⟨i, hi⟩ := info_of_underlying Try.underlying28
  have h2 : Try.prog.cellsOf 28 = 96 := by kernel_rfl
  simp [part, isAgg, run_underlying Try.underlying28, run_sizeOf w hi, h2]
theorem part_n (w : World) (xs : Array Value) (v : Value) (h : xs[96]? = some v) : (part 3 xs 96).run Try.prog w = .ok v w := by
  simp [part, isAgg, run_underlying Try.underlying3, h]
theorem eqRow (d : Nat) (f h : Nat → S25) (n m : Int) (w : World) : (Op.equalIn (d + 3) 28 (.agg ((boardC f n).extract 0 96)) (.agg ((boardC h m).extract 0 96))).run Try.prog w = .ok (sameF f h 0 48) w := by
  obtain ⟨i, hi⟩ := info_of_underlying Try.underlying25
  have h2 : Try.prog.cellsOf 25 = 2 := by kernel_rfl
  rw [run_equalIn_array w (d + 2) _ _ Try.underlying28 hi, h2, List.range_eq_range']
  refine eqItems_cells w d f h _ _ 48 0 (fun j h1 h2 => ⟨?_, ?_, ?_, ?_⟩)
  · rw [extract_get _ _ (by omega) (by rw [boardC_size]; omega)]; exact boardC_lo f n (by omega)
  · rw [extract_get _ _ (by omega) (by rw [boardC_size]; omega)]; exact boardC_hi f n (by omega)
  · rw [extract_get _ _ (by omega) (by rw [boardC_size]; omega)]; exact boardC_lo h m (by omega)
  · rw [extract_get _ _ (by omega) (by rw [boardC_size]; omega)]; exact boardC_hi h m (by omega)
theorem eqBoard (d : Nat) (f h : Nat → S25) (n m : Int) (w : World) : (Op.equalIn (d + 4) 30 (.agg (boardC f n)) (.agg (boardC h m))).run Try.prog w = .ok (sameB f h n m) w := by
  refine eqA_of Try.underlying30 (by kernel_rfl) ?_
  refine eqf_cons (by rfl) (part_row w _) (part_row w _) (eqRow d f h n m w) ?_
  refine eqf_last (by rfl) (part_n w _ _ (boardC_n f n)) (part_n w _ _ (boardC_n h m)) ?_
  exact run_equalIn_int w (d + 2) _ _ _ n m Try.underlying3
theorem board_eql (f h : Nat → S25) (n m : Int) (w : World) : (binOp .eql 30 (.agg (boardC f n)) (.agg (boardC h m))).run Try.prog w = .ok (.bool (sameB f h n m)) w := by
  rw [run_eql_struct, eqBoard 9996]; rfl
/-- A value of cells. -/
theorem cell_zero (w : World) : (zeroValue 25).run Try.prog w = .ok (.agg #[.int .i32 0, .int .u32 0]) w := by kernel_rfl
end Go.Proofs.Ytkjjmmgngdpppaa
