/- The document's example (awake). -/
import Derived.Test.YtbfcllpjenohlaaDoorDb
namespace Go.Proofs.YtbfcllpjenohlaaDoor
open Go.RowKit Go.Proofs.YtbfcllpjenohlaaDoorW.PrintWords Go.Proofs.YtbfcllpjenohlaaDoorW.PrintLast Go.Proofs.YtbfcllpjenohlaaDoorW.PrintMore
set_option linter.unusedVariables false
set_option linter.unusedSimpArgs false

theorem note_1 : noteN 0 0 1 = ((0, 1), true) := by decide +kernel
theorem note_2 : noteN 0 1 0 = ((2, 0), true) := by decide +kernel
theorem dist_3 : dist 65535 3 = 4 := by decide +kernel

set_option maxRecDepth 100000 in
set_option maxHeartbeats 4000000 in
theorem awake_any (w : World) (hT : TabAt w) :
    Calls Tryd.prog 8 #[] w fun e w' => e = .returned (.bool true) ∧ Below w.heap.size w w' := by
  have HT := Aside0.mk hT
  clear hT
  go_enter Tryd.func8, Tryd.ntmps8
  go_wp2_with fail
  refine (note_any 0 1 0 (by decide) _ HT.out).mono ?_
  rintro e w1 ⟨rfl, hb1⟩
  rw [note_1]
  have HB1 := Aside0.mk hb1
  have HT1 := Aside0.mk (HT.out.below hb1)
  clear hb1
  unfold acks
  go_wp2_with fail
  have HG1 := Aside0.mk (blk_new w1 (Obj.cells #[Value.int IntKind.u16 0, Value.int IntKind.u32 1] 35))
  have HT2 := Aside0.mk (HT1.out.below (below_alloc (Below.refl _ _) (Obj.cells #[Value.int IntKind.u16 0, Value.int IntKind.u32 1] 35)))
  have HB2 := Aside0.mk (below_alloc HB1.out (Obj.cells #[Value.int IntKind.u16 0, Value.int IntKind.u32 1] 35))
  refine (note_any 0 0 1 (by decide) _ HT2.out).mono ?_
  rintro e w2 ⟨rfl, hb2⟩
  rw [note_2]
  have HG2 := Aside0.mk (blk_below HG1.out hb2)
  have HB3 := Aside0.mk (below_step HB2.out hb2)
  clear hb2 HG1 HB1 HB2 HT2 HT1
  generalize w1.heap.size = g at *
  have a0 := (blk_cell HG2.out 0).trans rfl
  have a1 := (blk_cell HG2.out 1).trans rfl
  have a2 := (blk_cell (blk_alloc HG2.out (Obj.cells #[Value.int IntKind.u16 2, Value.int IntKind.u32 0] 35)) 0).trans rfl
  have a3 := (blk_cell (blk_alloc HG2.out (Obj.cells #[Value.int IntKind.u16 2, Value.int IntKind.u32 0] 35)) 1).trans rfl
  unfold acks
  go_wp2_with fail
  refine (less_any 65535 3 _).mono ?_
  rintro e w3 ⟨rfl, nd, rfl⟩
  rw [dist_3]
  go_wp2_with fail
  go_ret
  exact ⟨rfl, pw_below_drewN (below_alloc HB3.out _) _⟩
end Go.Proofs.YtbfcllpjenohlaaDoor
