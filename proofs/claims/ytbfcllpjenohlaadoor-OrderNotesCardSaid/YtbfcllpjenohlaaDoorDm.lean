/- How many have come: Ahead. -/
import Derived.Test.YtbfcllpjenohlaaDoorDl
namespace Go.Proofs.YtbfcllpjenohlaaDoor
open Go.RowKit Go.Proofs.YtbfcllpjenohlaaDoorW.PrintWords Go.Proofs.YtbfcllpjenohlaaDoorW.PrintLast Go.Proofs.YtbfcllpjenohlaaDoorW.PrintMore
set_option linter.unusedVariables false
set_option linter.unusedSimpArgs false

set_option maxHeartbeats 1000000 in
theorem ahead_any (x : Int) (b : Nat) (hb : b < 4294967296) (w : World) :
    Calls Tryd.prog 19 #[.agg #[.int .u16 x, .int .u32 b]] w fun e w' => e = .returned (.int .i64 (pop 32 b)) ∧ Below w.heap.size w w' := by
  have HB := Aside0.mk (below_alloc (Below.refl w.heap.size w) (.cells #[.int .u16 x, .int .u32 b] 35))
  go_enter Tryd.func19, Tryd.ntmps19
  go_wp2_with fail
  refine (ones_any b hb _).mono ?_
  rintro e w1 ⟨rfl, hb1⟩
  go_wp2_with fail
  go_ret
  exact ⟨rfl, below_step HB.out hb1⟩
end Go.Proofs.YtbfcllpjenohlaaDoor
