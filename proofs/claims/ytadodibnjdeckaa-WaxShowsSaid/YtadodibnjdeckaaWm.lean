/- The contract of wax.Make. -/
import Derived.Test.YtadodibnjdeckaaWx
import Derived.Laws.Tables
import Derived.Laws.CopyOwn
namespace Go.Proofs.Ytadodibnjdeckaa
open Go.RowKit Go.Proofs.YtadodibnjdeckaaW.PrintWords Go.Proofs.YtadodibnjdeckaaW.PrintLast Go.Proofs.YtadodibnjdeckaaW.PrintMore
set_option linter.unusedVariables false
set_option linter.unusedSimpArgs false

def tab (i : Nat) : Nat := stepN 0 (i % 256)
theorem tab_lt (i : Nat) : tab i < 4294967296 := bits8_lt 8 (Nat.xor_lt_two_pow (n := 32) (by omega) (by omega))
theorem tab_at {i : Nat} (h : i < 256) : stepN 0 i = tab i := by unfold tab; rw [Nat.mod_eq_of_lt h]
def Z256 : Array Value := Array.replicate 256 (.int .u32 0)
theorem zero_table (w : World) : (zeroValue 28).run Try.prog w = .ok (.agg Z256) w := by kernel_rfl
theorem Z256_size : Z256.size = 256 := by simp [Z256]
set_option maxRecDepth 100000 in
set_option maxHeartbeats 1000000 in
theorem make_any (w : World) :
    Calls Try.prog 10 #[] w fun e w' => ∃ T, e = .returned (.agg T) ∧ IsTab tab T ∧ Below w.heap.size w w' := by
  have hz := zero_table
  go_enter Try.func10, Try.ntmps10
  go_wp2_with fail
  have HB0 := Aside0.mk (below_alloc (below_alloc (Below.refl w.heap.size w) (Obj.cells Z256 28)) (Obj.cells Z256 28))
  clear hz
  go_loopw [3] (fun v3 wr => ∃ (k : Nat) (cs : Array Value), k ≤ 256 ∧ v3 = .int .i64 k ∧ Aside0 (wr.heap[w.heap.size + 1]? = some (.cells cs 28 (0, 0)) ∧ cs.size = 256 ∧ (∀ i, i < k → cs[i]? = some (.int .u32 (tab i : Nat))) ∧ wr.heap[w.heap.size]? = some (.cells Z256 28 (0, 0)) ∧ Below w.heap.size w wr)) (fun v3 _ => 256 - (intOf v3).toNat)
  case atStart => exact ⟨0, Z256, by omega, rfl, ⟨heap_alloc2_new _ _ _, Z256_size, fun i h => absurd h (by omega), heap_alloc2_old _ _ _, HB0.out⟩⟩
  case round =>
    obtain ⟨k, cs, hk, rfl, HS⟩ := hrel
    by_cases hlt : k < 256
    · have hck : wr.cell? ⟨w.heap.size + 1, k, none⟩ = some (cs[k]'(by have := HS.out.2.1; omega)) := by rw [cell_of_row _ _ _ _ _ _ HS.out.1]; exact Array.getElem?_eq_getElem _
      have hfk : wr.frozen? ⟨w.heap.size + 1, k, none⟩ = false := frozen_of_row _ _ _ _ _ HS.out.1
      generalize (cs[k]'(by have := HS.out.2.1; omega)) = u at *
      go_wp2_with (first | (go_at_call 11; refine (step_any 0 k _ (by omega) (by omega)).mono ?_; rintro e w' ⟨rfl, rfl⟩))
      go_roundw
      case rel =>
        refine ⟨k + 1, cs.setIfInBounds k (.int .u32 (stepN 0 k : Nat)), by omega, by go_num, ⟨?_, by simp [HS.out.2.1], ?_, ?_, ?_⟩⟩
        · exact heap_setCell_same _ _ _ _ _ _ HS.out.1
        · intro i hi
          rw [Array.getElem?_setIfInBounds]
          by_cases e : k = i
          · subst e; rw [if_pos rfl, if_pos (by rw [HS.out.2.1]; exact hlt), tab_at hlt]
          · rw [if_neg e]; exact HS.out.2.2.1 i (by omega)
        · rw [heap_setCell_other _ _ _ _ (by simp)]; exact HS.out.2.2.2.1
        · exact HS.out.2.2.2.2.setCell (by simp) _
      case measure => simp [intOf]; omega
    · obtain rfl : k = 256 := by omega
      have Hsz : Aside0 ((Try.prog.info? 28).map (·.size) = some cs.size) := ⟨by rw [HS.out.2.1]; kernel_rfl⟩
      have HZ : Aside0 (Z256.size = cs.size) := ⟨by rw [HS.out.2.1, Z256_size]⟩
      have H1 : Aside0 (cs.all (fun x => x.oneCell') = true) := ⟨by
        rw [Array.all_eq_true]
        intro i hi
        have := HS.out.2.2.1 i (by have := HS.out.2.1; omega)
        rw [Array.getElem?_eq_getElem hi] at this
        rw [Option.some.inj this]; rfl⟩
      have Hg := Aside0.mk (blk_lt HS.out.1)
      go_wp2_with (first | (refine wpList_load_row rfl 28 (.tmp 1) rfl (w.heap.size + 1) rfl 28 cs (0, 0) _ HS.out.1 Try.underlying28 rfl Hsz.out ?_) | (refine wpList_store_row rfl 28 (.tmp 0) (.tmp 12) rfl w.heap.size cs rfl rfl 28 Z256 HS.out.2.2.2.1 Hsz.out HZ.out H1.out ?_))
      refine bodyPost_ret (v := .agg cs) (results_cell_row Try.results10 _ _ w.heap.size 28 cs (0, 0) _ rfl (setRow_heap _ _ _ _ _ _ HS.out.2.2.2.1) Try.underlying28 rfl Hsz.out) rfl ⟨cs, rfl, ⟨HS.out.2.1, tab_lt, HS.out.2.2.1⟩, ?_⟩
      exact below_setRow HS.out.2.2.2.2 (Nat.le_refl _) _

end Go.Proofs.Ytadodibnjdeckaa
