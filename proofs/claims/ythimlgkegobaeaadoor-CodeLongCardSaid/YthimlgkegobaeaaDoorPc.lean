/- A pen's Byte. -/
import Derived.Test.YthimlgkegobaeaaDoorPb
namespace Go.Proofs.YthimlgkegobaeaaDoor
open Go.RowKit Go.Proofs.YthimlgkegobaeaaDoorW.PrintWords Go.Proofs.YthimlgkegobaeaaDoorW.PrintLast Go.Proofs.YthimlgkegobaeaaDoorW.PrintMore
set_option linter.unusedVariables false
set_option linter.unusedSimpArgs false

set_option maxHeartbeats 1000000 in
theorem pbyte_any (base g : Nat) (p : List Int) (v : Value) (x : Int) (w : World) (hk : Pn w base g p v) (hb : base ≤ g) (hl : p.length ≤ 10000000) :
    Calls Tryd.prog 41 #[.pointer (some ⟨g, 0, none⟩), .int .u8 x] w fun e w' => ∃ v', e = .returned (.pointer (some ⟨g, 0, none⟩)) ∧ PPut w w' base g v (p ++ [x]) v' := by
  have hal := below_alloc (Below.refl w.heap.size w) (.cells #[.int .u8 x] 5)
  have HK := Aside0.mk hk
  have HB := Aside0.mk hb
  have HAL := Aside0.mk hal
  have key := add_any base g p [x] v (some ⟨w.heap.size, 0, none⟩) 1 1 _ (hk.below hal) hb (row8_C (blk_new w _) rfl (by simp)) (by omega)
  have KEY := Aside0.mk key
  clear hk hb hal key hl
  go_enter Tryd.func41, Tryd.ntmps41
  go_wp2_with fail
  refine KEY.out.mono ?_
  rintro e w1 ⟨v', rfl, h⟩
  have H := Aside0.mk (PPut.after HB.out HK.out HAL.out h)
  clear h
  go_wp2_with fail
  go_ret
  exact ⟨_, rfl, H.out⟩

end Go.Proofs.YthimlgkegobaeaaDoor
