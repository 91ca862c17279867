/- board.At, Cells. -/
import Derived.Test.YtkjjmmgngdpppaaUb
namespace Go.Proofs.Ytkjjmmgngdpppaa
open Go.RowKit Go.Proofs.YtkjjmmgngdpppaaW.PrintWords Go.Proofs.YtkjjmmgngdpppaaW.PrintLast Go.Proofs.YtkjjmmgngdpppaaW.PrintMore
set_option linter.unusedVariables false
set_option linter.unusedSimpArgs false

theorem cell_info : (Try.prog.info? 25).map (·.size) = some 2 := by kernel_rfl
set_option maxRecDepth 100000 in
set_option maxHeartbeats 4000000 in
theorem at_any (f : Nat → S25) (n : Nat) (j : Nat) (w : World) (hj : j < n) (hn : n ≤ 48) :
    Calls Try.prog 13 #[.agg (boardC f n), .int .i64 j] w fun e w' => e = .returned (.tuple #[.agg #[.int .i32 (f j).f0, .int .u32 (f j).f1], .bool true]) ∧ Below w.heap.size w w' := by
  obtain ⟨W, hW⟩ : ∃ W, (w.alloc (.cells (boardC f n) 30)).alloc (.cells #[.int .i32 0, .int .u32 0] 25) = W := ⟨_, rfl⟩
  have g0 : Bd W w.heap.size f n := by rw [← hW]; exact blk_alloc (blk_new _ _) _
  have g1 : W.heap[w.heap.size + 1]? = some (.cells #[.int .i32 0, .int .u32 0] 25 (0, 0)) := by rw [← hW]; simpa using blk_new (w.alloc (.cells (boardC f n) 30)) (.cells #[.int .i32 0, .int .u32 0] 25)
  have hal : Below w.heap.size w W := by rw [← hW]; exact below_alloc (below_alloc (Below.refl _ _) _) _
  have HI := fun f m => Aside0.mk (board_info f m)
  have KT := Aside0.mk (there_any f n j W)
  rw [decide_eq_true ⟨by omega, by omega⟩] at KT
  have HG0 := Aside0.mk g0
  have HG1 := Aside0.mk g1
  have HAL := Aside0.mk hal
  have HW := Aside0.mk hW
  have HJ := Aside0.mk (⟨hj, hn⟩ : j < n ∧ n ≤ 48)
  have hj48 : (j : Int) < 48 := by omega
  clear g0 g1 hal hW hj hn
  go_enter Try.func13, Try.ntmps13
  go_wp2_with (first | (rw [HW.out]; refine wpList_load_row rfl 30 (.tmp 2) rfl w.heap.size rfl 30 _ (0, 0) _ HG0.out Try.underlying30 rfl (HI _ _).out ?_))
  refine KT.out.mono ?_
  rintro e w1 ⟨rfl, hb1⟩
  have b0 : Bd w1 w.heap.size f n := blk_below HG0.out hb1
  have b1 := blk_below HG1.out hb1
  have c0 := b0.lo (j := j) (by have := HJ.out; omega)
  have c1 := b0.hi (j := j) (by have := HJ.out; omega)
  have a0 := blk_cell b1 0
  have a1 := blk_cell b1 1
  have f0' := blk_frozen b1 0
  have f1' := blk_frozen b1 1
  have HB1 := Aside0.mk b1
  have HBL := Aside0.mk (below_step HAL.out hb1)
  clear b0 b1 hb1 KT
  rw [Nat.mul_comm] at c0 c1
  go_wp2_with fail
  have PF : ((w1.setCell ⟨w.heap.size + 1, 0, none⟩ (.int .i32 (f j).f0)).setCell ⟨w.heap.size + 1, 1, none⟩ (.int .u32 (f j).f1)).heap[w.heap.size + 1]? = some (.cells #[.int .i32 (f j).f0, .int .u32 (f j).f1] 25 (0, 0)) := blk_set (blk_set HB1.out 0 _) 1 _
  refine bodyPost_ret (results_ct rfl _ _ (w.heap.size + 1) _ #[.int .i32 (f j).f0, .int .u32 (f j).f1] (0, 0) _ rfl PF Try.underlying25 rfl cell_info) rfl ?_
  exact ⟨rfl, (HBL.out.setCell (Nat.le_succ _) _).setCell (Nat.le_succ _) _⟩
set_option maxRecDepth 100000 in
set_option maxHeartbeats 4000000 in
theorem at_no (f : Nat → S25) (n : Int) (j : Int) (w : World) (hj : ¬ (0 ≤ j ∧ j < n)) :
    Calls Try.prog 13 #[.agg (boardC f n), .int .i64 j] w fun e w' => e = .returned (.tuple #[.agg #[.int .i32 0, .int .u32 0], .bool false]) ∧ Below w.heap.size w w' := by
  obtain ⟨W, hW⟩ : ∃ W, (w.alloc (.cells (boardC f n) 30)).alloc (.cells #[.int .i32 0, .int .u32 0] 25) = W := ⟨_, rfl⟩
  have g0 : Bd W w.heap.size f n := by rw [← hW]; exact blk_alloc (blk_new _ _) _
  have g1 : W.heap[w.heap.size + 1]? = some (.cells #[.int .i32 0, .int .u32 0] 25 (0, 0)) := by rw [← hW]; simpa using blk_new (w.alloc (.cells (boardC f n) 30)) (.cells #[.int .i32 0, .int .u32 0] 25)
  have hal : Below w.heap.size w W := by rw [← hW]; exact below_alloc (below_alloc (Below.refl _ _) _) _
  have HI := fun f m => Aside0.mk (board_info f m)
  have KT := Aside0.mk (there_any f n j W)
  rw [decide_eq_false hj] at KT
  have HG0 := Aside0.mk g0
  have HG1 := Aside0.mk g1
  have HAL := Aside0.mk hal
  have HW := Aside0.mk hW
  clear g0 g1 hal hW hj
  go_enter Try.func13, Try.ntmps13
  go_wp2_with (first | (rw [HW.out]; refine wpList_load_row rfl 30 (.tmp 2) rfl w.heap.size rfl 30 _ (0, 0) _ HG0.out Try.underlying30 rfl (HI _ _).out ?_))
  refine KT.out.mono ?_
  rintro e w1 ⟨rfl, hb1⟩
  have b1 := blk_below HG1.out hb1
  have a0 := blk_cell b1 0
  have a1 := blk_cell b1 1
  have f0' := blk_frozen b1 0
  have f1' := blk_frozen b1 1
  have HB1 := Aside0.mk b1
  have HBL := Aside0.mk (below_step HAL.out hb1)
  clear b1 hb1 KT
  go_wp2_with fail
  have PF : ((w1.setCell ⟨w.heap.size + 1, 0, none⟩ (.int .i32 0)).setCell ⟨w.heap.size + 1, 1, none⟩ (.int .u32 0)).heap[w.heap.size + 1]? = some (.cells #[.int .i32 0, .int .u32 0] 25 (0, 0)) := blk_set (blk_set HB1.out 0 _) 1 _
  refine bodyPost_ret (results_ct rfl _ _ (w.heap.size + 1) _ #[.int .i32 0, .int .u32 0] (0, 0) _ rfl PF Try.underlying25 rfl cell_info) rfl ?_
  exact ⟨rfl, (HBL.out.setCell (Nat.le_succ _) _).setCell (Nat.le_succ _) _⟩

/-! ### Cells -/
def listF (f : Nat → S25) (m : Nat) : List S25 := (List.range m).map f
theorem listF_length (f : Nat → S25) (m : Nat) : (listF f m).length = m := by simp [listF]
theorem C_of_board {w : World} {g : Nat} {f : Nat → S25} {n : Int} (h : Bd w g f n) {m : Nat} (hm : m ≤ 48) : k25.C w (some ⟨g, 0, none⟩) m (listF f m) := by
  refine ⟨listF_length f m, by omega, fun _ => ⟨_, rfl, fun j p hj => ?_⟩⟩
  have hjm : j < m := by
    have := (List.getElem?_eq_some_iff.1 hj).1
    rwa [listF_length] at this
  obtain rfl : f j = p := by
    unfold listF at hj
    rw [List.getElem?_map, List.getElem?_range hjm] at hj
    simpa using hj
  refine ⟨[.int .i32 (f j).f0, .int .u32 (f j).f1], rfl, k25_mk w (f j), fun i u hu => ?_⟩
  show w.cell? ((⟨g, 0, none⟩ : Addr).add (j * 2 + i)) = _
  rw [add_plain]
  match i, hu with
  | 0, hu =>
    obtain rfl : Value.int .i32 (f j).f0 = u := by simpa using hu
    rw [Nat.add_zero, Nat.mul_comm]; exact h.lo (by omega)
  | 1, hu =>
    obtain rfl : Value.int .u32 (f j).f1 = u := by simpa using hu
    rw [Nat.mul_comm]; exact h.hi (by omega)
  | i + 2, hu => simp at hu
end Go.Proofs.Ytkjjmmgngdpppaa
