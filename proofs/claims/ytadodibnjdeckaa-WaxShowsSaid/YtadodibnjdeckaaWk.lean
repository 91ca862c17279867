/- The document's example (awake), walked. -/
import Derived.Test.YtadodibnjdeckaaWm
import Derived.Lib.SlBytesConst
namespace Go.Proofs.Ytadodibnjdeckaa
open Go.RowKit Go.Proofs.YtadodibnjdeckaaW.PrintWords Go.Proofs.YtadodibnjdeckaaW.PrintLast Go.Proofs.YtadodibnjdeckaaW.PrintMore
set_option linter.unusedVariables false
set_option linter.unusedSimpArgs false

set_option maxRecDepth 100000 in
theorem awake_sum : sumN tab [[49, 50, 51, 52, 53], [54, 55, 56, 57]].flatten = 3808858755 := by decide +kernel
set_option maxRecDepth 100000 in
set_option maxHeartbeats 1000000 in
theorem awake_any (w : World) :
    Calls Try.prog 8 #[] w fun e w' => e = .returned (.bool true) ∧ Below w.heap.size w w' := by
  have hcv : ∀ (w : World) (C : Array Value) (n c g : Nat), g = w.heap.size → (convert 22 22 (.slice (some ⟨g, 0, none⟩) n c)).run Try.prog (w.alloc (.cells C 5)) = .ok (.slice (some ⟨g, 0, none⟩) n c) (w.alloc (.cells C 5 (C.size, C.size + 1))) := fun w C n c g hg => by
    subst hg; exact Lib.run_convert_bytes_const w _ _ C n c Try.underlying22 Try.underlying5
  go_enter Try.func8, Try.ntmps8
  go_wp2_with fail
  refine (make_any _).mono ?_
  rintro e w1 ⟨T, rfl, hT, hb1⟩
  have HT := Aside0.mk hT
  have HB1 := Aside0.mk hb1
  clear hT hb1
  go_wp2_with fail
  have C2 : Aside0 ((Kd.slice 5 (Kd.int .u8)).C (((w1.alloc (Obj.cells #[Value.int .u8 49, Value.int .u8 50, Value.int .u8 51, Value.int .u8 52, Value.int .u8 53] 5 (5, 6))).alloc (Obj.cells #[Value.int .u8 54, Value.int .u8 55, Value.int .u8 56, Value.int .u8 57] 5 (4, 5))).alloc (Obj.cells #[.slice (some ⟨w1.heap.size, 0, none⟩) 5 5, .slice (some ⟨w1.heap.size + 1, 0, none⟩) 4 4] 22)) (some ⟨w1.heap.size + 1 + 1, 0, none⟩) 2 [[49, 50, 51, 52, 53], [54, 55, 56, 57]]) := by
    refine ⟨C_of_two (t := 22) (fr := (0, 0)) (by simpa using heap_alloc_new ((w1.alloc _).alloc _) _) ?_ (Nat.le_refl _) ?_ (Nat.le_refl _)⟩
    · exact Kd.C_alloc (Kd.C_alloc (C_of_block (heap_alloc_new _ _) (by simp)) _) _
    · exact Kd.C_alloc (C_of_block (by simpa using heap_alloc_new (w1.alloc _) _) (by simp)) _
  refine (sum_any' tab T _ _ _ [[49, 50, 51, 52, 53], [54, 55, 56, 57]] _ HT.out C2.out (by unfold Bytes; decide)).mono ?_
  rintro e w2 ⟨rfl, hb2⟩
  rw [awake_sum]
  have HB2 := Aside0.mk (below_step (below_alloc (below_alloc (below_alloc HB1.out _) _) _) hb2)
  clear hb2
  go_wp2
  go_ret
  exact ⟨rfl, HB2.out⟩

end Go.Proofs.Ytadodibnjdeckaa
