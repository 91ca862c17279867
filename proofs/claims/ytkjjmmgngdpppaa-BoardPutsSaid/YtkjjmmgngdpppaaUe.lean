/- mask.Has; board.View. -/
import Derived.Test.YtkjjmmgngdpppaaUd
namespace Go.Proofs.Ytkjjmmgngdpppaa
open Go.RowKit Go.Proofs.YtkjjmmgngdpppaaW.PrintWords Go.Proofs.YtkjjmmgngdpppaaW.PrintLast Go.Proofs.YtkjjmmgngdpppaaW.PrintMore
set_option linter.unusedVariables false
set_option linter.unusedSimpArgs false

def oneN (o : Int) : Int := if o < 0 then 0 else if o ≥ 32 then 0 else shl .u32 1 o
theorem one_f (o : Int) : mask_one.f o = some (oneN o) := by
  unfold mask_one.f oneN
  by_cases h : o < 0
  · rw [if_pos h, if_pos h]
  · rw [if_neg h, if_neg h]
    by_cases h2 : o ≥ 32
    · rw [if_pos h2, if_pos h2]
    · rw [if_neg h2, if_neg h2, if_pos (by omega)]
/-- Is one in a mask? -/
def hasB (m o : Int) : Bool := Go.bits .and .u32 m (oneN o) != 0
theorem has_any (m o : Int) (w : World) : Calls Try.prog 19 #[.int .u32 m, .int .i64 o] w fun e w' => e = .returned (.bool (hasB m o)) ∧ Drawn0 w w' :=
  mask_Mask_Has.calls m o _ w (by unfold mask_Mask_Has.f; rw [one_f]; rfl)

theorem cellsF_setlo (f : Nat → S25) (x : Int) : ∀ (k j : Nat), j < k → (cellsF f k).set (2 * j) (.int .i32 x) = cellsF (fun i => if i = j then ⟨x, (f i).f1⟩ else f i) k
  | 0, j, h => by omega
  | k + 1, j, h => by
    simp only [cellsF]
    by_cases hj : j < k
    · rw [List.set_append_left _ _ (by rw [cellsF_length]; omega), cellsF_setlo f x k j hj, if_neg (by omega)]
    · obtain rfl : j = k := by omega
      rw [List.set_append_right _ _ (by rw [cellsF_length]; omega), cellsF_length, Nat.sub_self, List.set_cons_zero, if_pos rfl]
      congr 1
      exact cellsF_congr (fun i hi => by rw [if_neg (by omega)])
theorem cellsF_sethi (f : Nat → S25) (x : Int) : ∀ (k j : Nat), j < k → (cellsF f k).set (2 * j + 1) (.int .u32 x) = cellsF (fun i => if i = j then ⟨(f i).f0, x⟩ else f i) k
  | 0, j, h => by omega
  | k + 1, j, h => by
    simp only [cellsF]
    by_cases hj : j < k
    · rw [List.set_append_left _ _ (by rw [cellsF_length]; omega), cellsF_sethi f x k j hj, if_neg (by omega)]
    · obtain rfl : j = k := by omega
      rw [List.set_append_right _ _ (by rw [cellsF_length]; omega), cellsF_length, show 2 * j + 1 - 2 * j = 1 by omega, List.set_cons_succ, List.set_cons_zero, if_pos rfl]
      congr 1
      exact cellsF_congr (fun i hi => by rw [if_neg (by omega)])
theorem boardC_setlo (f : Nat → S25) (n x : Int) {j : Nat} (hj : j < 48) : (boardC f n).setIfInBounds (2 * j) (.int .i32 x) = boardC (fun i => if i = j then ⟨x, (f i).f1⟩ else f i) n := by
  apply Array.ext'
  rw [Array.toList_setIfInBounds]
  show (boardL f n).set (2 * j) _ = boardL _ n
  unfold boardL
  rw [List.set_append_left _ _ (by rw [cellsF_length]; omega), cellsF_setlo f x 48 j hj]
theorem Bd.setlo {w : World} {g : Nat} {f : Nat → S25} {n : Int} (h : Bd w g f n) {j : Nat} (hj : j < 48) (x : Int) : Bd (w.setCell ⟨g, 2 * j, none⟩ (.int .i32 x)) g (fun i => if i = j then ⟨x, (f i).f1⟩ else f i) n :=
  (blk_set h (2 * j) _).trans (by rw [boardC_setlo f n x hj])
theorem boardC_sethi (f : Nat → S25) (n x : Int) {j : Nat} (hj : j < 48) : (boardC f n).setIfInBounds (2 * j + 1) (.int .u32 x) = boardC (fun i => if i = j then ⟨(f i).f0, x⟩ else f i) n := by
  apply Array.ext'
  rw [Array.toList_setIfInBounds]
  show (boardL f n).set (2 * j + 1) _ = boardL _ n
  unfold boardL
  rw [List.set_append_left _ _ (by rw [cellsF_length]; omega), cellsF_sethi f x 48 j hj]
theorem Bd.sethi {w : World} {g : Nat} {f : Nat → S25} {n : Int} (h : Bd w g f n) {j : Nat} (hj : j < 48) (x : Int) : Bd (w.setCell ⟨g, 2 * j + 1, none⟩ (.int .u32 x)) g (fun i => if i = j then ⟨(f i).f0, x⟩ else f i) n :=
  (blk_set h (2 * j + 1) _).trans (by rw [boardC_sethi f n x hj])
/-- What one sees of the first m cells. -/
def viewF (f : Nat → S25) (m : Nat) (o : Int) : Nat → S25 := fun k => if k < m ∧ hasB (f k).f1 o = false then ⟨0, (f k).f1⟩ else f k
theorem viewF_zero (f : Nat → S25) (o : Int) : viewF f 0 o = f := by funext k; unfold viewF; rw [if_neg (by omega)]
theorem viewF_yes (f : Nat → S25) (m : Nat) (o : Int) (h : hasB (f m).f1 o = true) : viewF f (m + 1) o = viewF f m o := by
  funext k
  unfold viewF
  by_cases hk : k = m
  · subst hk; rw [if_neg (by rw [h]; simp), if_neg (by omega)]
  · by_cases h2 : k < m ∧ hasB (f k).f1 o = false
    · rw [if_pos ⟨by omega, h2.2⟩, if_pos h2]
    · rw [if_neg (fun h3 => h2 ⟨by omega, h3.2⟩), if_neg h2]
theorem viewF_no (f : Nat → S25) (m : Nat) (o : Int) (h : hasB (f m).f1 o = false) : viewF f (m + 1) o = fun k => if k = m then ⟨0, (viewF f m o k).f1⟩ else viewF f m o k := by
  funext k
  unfold viewF
  by_cases hk : k = m
  · subst hk; rw [if_pos ⟨by omega, h⟩, if_pos rfl, if_neg (by omega)]
  · rw [if_neg hk]
    by_cases h2 : k < m ∧ hasB (f k).f1 o = false
    · rw [if_pos ⟨by omega, h2.2⟩, if_pos h2]
    · rw [if_neg (fun h3 => h2 ⟨by omega, h3.2⟩), if_neg h2]
theorem viewF_at (f : Nat → S25) (m : Nat) (o : Int) : viewF f m o m = f m := by unfold viewF; rw [if_neg (by omega)]

set_option maxRecDepth 100000 in
set_option maxHeartbeats 4000000 in
theorem view_any (f : Nat → S25) (n : Nat) (o : Int) (w : World) (hn : n ≤ 48) :
    Calls Try.prog 26 #[.agg (boardC f n), .int .i64 o] w fun e w' => e = .returned (.agg (boardC (viewF f n o) n)) ∧ Below w.heap.size w w' := by
  have hz := zero_board
  obtain ⟨W, hW⟩ : ∃ W, (w.alloc (.cells (boardC f n) 30)).alloc (.cells (boardC (fun _ => z25) 0) 30) = W := ⟨_, rfl⟩
  have g0 : Bd W w.heap.size f n := by rw [← hW]; exact blk_alloc (blk_new _ _) _
  have g1 : W.heap[w.heap.size + 1]? = some (.cells (boardC (fun _ => z25) 0) 30 (0, 0)) := by rw [← hW]; simpa using blk_new (w.alloc (.cells (boardC f n) 30)) (.cells (boardC (fun _ => z25) 0) 30)
  have hal : Below w.heap.size w W := by rw [← hW]; exact below_alloc (below_alloc (Below.refl _ _) _) _
  have c96 := g0.num
  rw [← hW] at c96
  have HI := fun f m => Aside0.mk (board_info f m)
  have HO := fun f m => Aside0.mk (boardC_one f m)
  have H0 : Aside0 (Bd W w.heap.size (viewF f 0 o) n ∧ Bd W (w.heap.size + 1) (fun _ => z25) 0 ∧ Below w.heap.size w W) := ⟨⟨by rw [viewF_zero]; exact g0, g1, hal⟩⟩
  have HW := Aside0.mk hW
  have HN := Aside0.mk hn
  clear g0 g1 hal hW hn
  go_enter Try.func26, Try.ntmps26
  go_wp2_with fail
  rw [HW.out]
  clear c96
  go_loopw [8] (fun v8 wr => ∃ i : Nat, i ≤ n ∧ v8 = .int .i64 i ∧ Aside0 (Bd wr w.heap.size (viewF f i o) n ∧ Bd wr (w.heap.size + 1) (fun _ => z25) 0 ∧ Below w.heap.size w wr)) (fun v8 _ => n - (intOf v8).toNat)
  case atStart => exact ⟨0, by omega, rfl, H0⟩
  case round =>
    clear H0
    obtain ⟨i, hi, rfl, H⟩ := hrel
    have hmx : n ≤ 48 := HN.out
    by_cases hlt : i < n
    · have d1 : decide (i < n) = true := decide_eq_true hlt
      have c1 := H.out.1.hi (j := i) (by omega)
      rw [viewF_at] at c1
      have hi48 : (i : Int) < 48 := by omega
      rw [Nat.mul_comm] at c1
      cases hh : hasB (f i).f1 o with
      | true =>
        have KH := Aside0.mk (has_any (f i).f1 o wr)
        rw [hh] at KH
        have HV := Aside0.mk (viewF_yes f i o hh)
        clear hh
        go_wp2_with fail
        refine KH.out.mono ?_
        rintro e w2 ⟨rfl, nd, rfl⟩
        have H2 : Aside0 (Bd (wr.drewN nd) w.heap.size (viewF f (i + 1) o) n ∧ Bd (wr.drewN nd) (w.heap.size + 1) (fun _ => z25) 0 ∧ Below w.heap.size w (wr.drewN nd)) := ⟨⟨by rw [HV.out]; exact blk_drewN H.out.1 nd, blk_drewN H.out.2.1 nd, pw_below_drewN H.out.2.2 nd⟩⟩
        clear KH
        go_wp2_with fail
        go_roundw
        case rel => exact ⟨i + 1, by omega, by go_num, H2⟩
        case measure => simp [intOf]; omega
      | false =>
        have KH := Aside0.mk (has_any (f i).f1 o wr)
        rw [hh] at KH
        have HV := Aside0.mk (viewF_no f i o hh)
        clear hh
        go_wp2_with fail
        refine KH.out.mono ?_
        rintro e w2 ⟨rfl, nd, rfl⟩
        have b0 : Bd (wr.drewN nd) w.heap.size (viewF f i o) n := blk_drewN H.out.1 nd
        have b1 : Bd (wr.drewN nd) (w.heap.size + 1) (fun _ => z25) 0 := blk_drewN H.out.2.1 nd
        have c0 := b0.lo (j := i) (by omega)
        have f0' := b0.frozen (2 * i)
        rw [Nat.mul_comm] at c0 f0'
        have H2 : Aside0 (Bd ((wr.drewN nd).setCell ⟨w.heap.size, i * 2, none⟩ (.int .i32 0)) w.heap.size (viewF f (i + 1) o) n ∧ Bd ((wr.drewN nd).setCell ⟨w.heap.size, i * 2, none⟩ (.int .i32 0)) (w.heap.size + 1) (fun _ => z25) 0 ∧ Below w.heap.size w ((wr.drewN nd).setCell ⟨w.heap.size, i * 2, none⟩ (.int .i32 0))) := by
          refine ⟨⟨?_, (Below.heap_setCell _ _ _ _ (by simp)).trans b1, (pw_below_drewN H.out.2.2 nd).setCell (Nat.le_refl _) _⟩⟩
          rw [HV.out, Nat.mul_comm i 2]
          exact b0.setlo (by omega) 0
        clear KH b0 b1
        go_wp2_with fail
        go_roundw
        case rel => exact ⟨i + 1, by omega, by go_num, H2⟩
        case measure => simp [intOf]; omega
    · obtain rfl : i = n := by omega
      have d1 : decide (i < i) = false := decide_eq_false (by omega)
      have H1 := H
      clear H hi hlt
      go_wp2_with (first | (refine wpList_load_row rfl 30 (.tmp 2) rfl w.heap.size rfl 30 _ (0, 0) _ H1.out.1 Try.underlying30 rfl (HI _ _).out ?_) | (refine wpList_store_row rfl 30 (.tmp 4) (.tmp 24) rfl (w.heap.size + 1) (boardC (viewF f i o) i) rfl rfl 30 _ H1.out.2.1 (HI _ _).out (by rw [boardC_size, boardC_size]) (HO _ _).out ?_))
      refine bodyPost_ret (results_cell_row rfl _ _ (w.heap.size + 1) _ (boardC (viewF f i o) i) (0, 0) _ rfl (setRow_heap _ _ _ _ _ _ H1.out.2.1) Try.underlying30 rfl (HI _ _).out) rfl ?_
      exact ⟨rfl, below_setRow H1.out.2.2 (Nat.le_succ _) _⟩
end Go.Proofs.Ytkjjmmgngdpppaa
