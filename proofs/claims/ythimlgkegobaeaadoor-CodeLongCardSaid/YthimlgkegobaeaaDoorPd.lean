/- A pen's Bytes. -/
import Derived.Test.YthimlgkegobaeaaDoorPb
import Derived.Test.YthimlgkegobaeaaDoorWx
namespace Go.Proofs.YthimlgkegobaeaaDoor
open Go.RowKit Go.Proofs.YthimlgkegobaeaaDoorW.PrintWords Go.Proofs.YthimlgkegobaeaaDoorW.PrintLast Go.Proofs.YthimlgkegobaeaaDoorW.PrintMore
set_option linter.unusedVariables false
set_option linter.unusedSimpArgs false

set_option maxHeartbeats 1000000 in
theorem pbytes_any (base g : Nat) (p : List Int) (v : Value) (w : World) (hk : Pn w base g p v) (hl : p.length ≤ 1000000) :
    Calls Tryd.prog 43 #[.pointer (some ⟨g, 0, none⟩)] w fun e w' => ∃ vo, e = .returned vo ∧ (Kd.int .u8).R 5 w' w.heap.size (fun _ => True) vo p ∧ Below w.heap.size w w' := by
  have c0 := blk_cell hk.1 0
  obtain ⟨Q, d, hv⟩ := Kd.R_slice hk.2
  subst hv
  obtain ⟨r1, r2, r3⟩ := Rn_C hk.2
  have KEY := Aside0.mk (clone_any Q p.length d p w r3 (by omega))
  generalize p.length = m at *
  clear hk r1 r2 r3 hl
  go_enter Tryd.func43, Tryd.ntmps43
  go_wp2_with fail
  refine KEY.out.mono ?_
  rintro e w1 ⟨vo, rfl, h1, h2⟩
  have H1 := Aside0.mk h1
  have H2 := Aside0.mk h2
  clear h1 h2
  go_wp2_with fail
  go_ret
  exact ⟨_, rfl, H1.out, H2.out⟩
end Go.Proofs.YthimlgkegobaeaaDoor
