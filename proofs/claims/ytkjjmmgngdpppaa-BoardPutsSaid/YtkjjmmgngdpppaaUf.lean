/- law06: awake. -/
import Derived.Test.YtkjjmmgngdpppaaUe
namespace Go.Proofs.Ytkjjmmgngdpppaa
open Go.RowKit Go.Proofs.YtkjjmmgngdpppaaW.PrintWords Go.Proofs.YtkjjmmgngdpppaaW.PrintLast Go.Proofs.YtkjjmmgngdpppaaW.PrintMore
set_option linter.unusedVariables false
set_option linter.unusedSimpArgs false

theorem of_zero (g : Nat) (w : World) (h : w.heap[g]? = some (.cells #[.int .i64 0] 3 (0, 0))) :
    Calls Try.prog 32 #[.slice (some ⟨g, 0, none⟩) 1 1] w fun e w' => e = .returned (.int .u32 1) ∧ Drawn0 w w' :=
  mask_Of.calls 5 (some ⟨g, 0, none⟩) 1 [0] 1 w (C_of_block h ⟨rfl, rfl, by decide⟩) (by decide) (by kernel_rfl)
theorem C_one_cell {w : World} {g : Nat} {x : S25} (h : w.heap[g]? = some (.cells #[.int .i32 x.f0, .int .u32 x.f1] 25 (0, 0))) : k25.C w (some ⟨g, 0, none⟩) 1 [x] := by
  refine ⟨rfl, by decide, fun _ => ⟨_, rfl, fun j p hj => ?_⟩⟩
  have hj0 : j = 0 := by
    have := (List.getElem?_eq_some_iff.1 hj).1
    simp at this; exact this
  subst hj0
  obtain rfl : x = p := by simpa using hj
  refine ⟨[.int .i32 x.f0, .int .u32 x.f1], rfl, k25_mk w x, fun i u hu => ?_⟩
  show w.cell? ((⟨g, 0, none⟩ : Addr).add (0 * 2 + i)) = _
  rw [add_plain, Nat.zero_mul, Nat.zero_add]
  match i, hu with
  | 0, hu => exact (blk_cell h 0).trans hu
  | 1, hu => exact (blk_cell h 1).trans hu
  | i + 2, hu => simp at hu
theorem has_one : hasB 1 1 = false := by kernel_rfl

set_option maxRecDepth 100000 in
set_option maxHeartbeats 4000000 in
theorem awake_any (w : World) : Calls Try.prog 10 #[] w fun e w' => e = .returned (.bool true) ∧ Below w.heap.size w w' := by
  have KO := Aside0.mk (of_zero w.heap.size (w.alloc (.cells #[.int .i64 0] 3)) (blk_new _ _))
  have HB0 := Aside0.mk (below_alloc (Below.refl w.heap.size w) (.cells #[.int .i64 0] 3))
  have HI := fun f m => Aside0.mk (board_info f m)
  have HO := fun f m => Aside0.mk (boardC_one f m)
  have hz := zero_board
  go_enter Try.func10, Try.ntmps10
  go_wp2_with fail
  refine KO.out.mono ?_
  rintro e w1 ⟨rfl, nd, rfl⟩
  have HB1 := Aside0.mk (pw_below_drewN HB0.out nd)
  clear KO HB0
  generalize (w.alloc (.cells #[.int .i64 0] 3)).drewN nd = w1 at *
  have KN := Aside0.mk (new_any (some ⟨w1.heap.size, 0, none⟩) 1 1 [⟨7, 1⟩] _ (C_one_cell (x := ⟨7, 1⟩) (blk_new w1 (.cells #[.int .i32 7, .int .u32 1] 25))) (by decide) (by decide))
  have HB2 := Aside0.mk (below_step HB1.out (below_alloc (Below.refl _ _) (.cells #[.int .i32 7, .int .u32 1] 25)))
  clear HB1
  go_wp2_with fail
  refine KN.out.mono ?_
  rintro e w2 ⟨rfl, hb2⟩
  obtain ⟨f, hf⟩ : ∃ f, fL [⟨7, 1⟩] = f := ⟨_, rfl⟩
  have HF : Aside0 (f 0 = ⟨7, 1⟩) := ⟨by rw [← hf]; rfl⟩
  rw [hf]
  have HB3 := Aside0.mk (below_step HB2.out hb2)
  clear hb2 KN HB2 hf
  have KV : Aside0 (∀ X : World, Calls Try.prog 26 #[.agg (boardC f 1), .int .i64 1] X fun e w' => e = .returned (.agg (boardC (viewF f 1 1) 1)) ∧ Below X.heap.size X w') := ⟨fun X => view_any f 1 1 X (by decide)⟩
  have KA : Aside0 (∀ X : World, Calls Try.prog 13 #[.agg (boardC (viewF f 1 1) 1), .int .i64 0] X fun e w' => e = .returned (.tuple #[.agg #[.int .i32 (viewF f 1 1 0).f0, .int .u32 (viewF f 1 1 0).f1], .bool true]) ∧ Below X.heap.size X w') := ⟨fun X => at_any (viewF f 1 1) 1 0 X (by decide) (by decide)⟩
  have KA2 : Aside0 (∀ X : World, Calls Try.prog 13 #[.agg (boardC f 1), .int .i64 0] X fun e w' => e = .returned (.tuple #[.agg #[.int .i32 (f 0).f0, .int .u32 (f 0).f1], .bool true]) ∧ Below X.heap.size X w') := ⟨fun X => at_any f 1 0 X (by decide) (by decide)⟩
  have HZ := Aside0.mk (blk_new w2 (.cells (boardC (fun _ => z25) 0) 30))
  have HB4 := Aside0.mk (below_setRow (below_step HB3.out (below_alloc (Below.refl _ _) (.cells (boardC (fun _ => z25) 0) 30))) HB3.out.size (boardC f 1) (g := w2.heap.size))
  have g0 : Aside0 (((w2.alloc (.cells (boardC (fun _ => z25) 0) 30)).setRow w2.heap.size (boardC f 1)).heap[w2.heap.size]? = some (.cells (boardC f 1) 30 (0, 0))) := ⟨setRow_heap _ _ _ _ _ _ HZ.out⟩
  clear HB3
  go_wp2_with (first | (refine wpList_store_row rfl 30 (.tmp 1) (.tmp 13) rfl w2.heap.size (boardC f 1) rfl rfl 30 _ HZ.out (HI _ _).out (by rw [boardC_size, boardC_size]) (HO _ _).out ?_) | (refine wpList_load_row rfl 30 (.tmp 1) rfl w2.heap.size rfl 30 (boardC f 1) (0, 0) _ g0.out Try.underlying30 rfl (HI _ _).out ?_))
  refine (KV.out _).mono ?_
  rintro e w3 ⟨rfl, hb3⟩
  have g3 := Aside0.mk (blk_below g0.out hb3)
  have HB5 := Aside0.mk (below_step HB4.out hb3)
  clear hb3 g0 HB4 HZ
  go_wp2_with fail
  refine (KA.out _).mono ?_
  rintro e w4 ⟨rfl, hb4⟩
  have hv : viewF f 1 1 0 = ⟨0, 1⟩ := by unfold viewF; rw [HF.out]; rw [if_pos ⟨by decide, has_one⟩]
  rw [hv]
  have g4 := Aside0.mk (blk_alloc (blk_below g3.out hb4) (.cells #[.int .i32 0, .int .u32 1] 25))
  have HB6 := Aside0.mk (below_step (below_step HB5.out hb4) (below_alloc (Below.refl _ _) (.cells #[.int .i32 0, .int .u32 1] 25)))
  have p4 := Aside0.mk (blk_new w4 (.cells #[.int .i32 0, .int .u32 1] 25))
  clear hb4 g3 HB5 hv
  go_wp2_with (first | (refine wpList_load_row rfl 30 (.tmp 1) rfl w2.heap.size rfl 30 (boardC f 1) (0, 0) _ g4.out Try.underlying30 rfl (HI _ _).out ?_))
  refine (KA2.out _).mono ?_
  rintro e w5 ⟨rfl, hb5⟩
  rw [HF.out]
  have p5 := blk_below p4.out hb5
  have p6 := blk_alloc p5 (.cells #[.int .i32 7, .int .u32 1] 25)
  have a0 := blk_cell p6 0
  have a1 := blk_cell p6 1
  have b0 := blk_cell (blk_new w5 (.cells #[.int .i32 7, .int .u32 1] 25)) 0
  have HB7 := Aside0.mk (below_step (below_step HB6.out hb5) (below_alloc (Below.refl _ _) (.cells #[.int .i32 7, .int .u32 1] 25)))
  clear hb5 p5 p6 p4 g4 HB6
  go_wp2_with fail
  go_ret
  exact ⟨rfl, HB7.out⟩
end Go.Proofs.Ytkjjmmgngdpppaa
