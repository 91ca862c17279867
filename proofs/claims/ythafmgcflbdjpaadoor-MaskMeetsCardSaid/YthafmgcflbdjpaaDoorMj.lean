/- The reference's words of a mask. -/
import Derived.Test.YthafmgcflbdjpaaDoorMi
namespace Go.Proofs.YthafmgcflbdjpaaDoor
open Go.RowKit Go.Shelf Go.Proofs.YthafmgcflbdjpaaDoorW.PrintWords Go.Proofs.YthafmgcflbdjpaaDoorW.PrintLast Go.Proofs.YthafmgcflbdjpaaDoorW.PrintMore
set_option linter.unusedVariables false
set_option linter.unusedSimpArgs false

theorem dec_f1 : ∀ x : Fin 10, hoodwinkref01_Dec.f 1 (x.val : Int) = some ⟨#[UInt8.ofNat (48 + x.val)]⟩ := by
  intro x
  unfold hoodwinkref01_Dec.f
  have hx := x.isLt
  have e : IntKind.u64.wrap ((x.val : Int) + 1) = ((x.val + 1 : Nat) : Int) := by rw [IntKind.wrap_u64]; omega
  rw [if_pos (by omega), if_pos (by omega), e, if_pos (by omega), if_pos (by omega)]
  congr 1
  revert x
  decide
theorem dec_f2 (x : Fin 32) : hoodwinkref01_Dec.f 2 (x.val : Int) = some (tF x) := by
  have hx := x.isLt
  unfold tF
  by_cases h : x.val < 10
  · have h1 := dec_f1 ⟨x.val, h⟩
    have h2 : hoodwinkref01_Dec.f 2 (x.val : Int) = hoodwinkref01_Dec.f 1 (x.val : Int) := by
      simp only [hoodwinkref01_Dec.f]
      rw [if_pos (show ((x.val : Nat) : Int) < 10 by omega)]
      rw [if_pos (show ((x.val : Nat) : Int) < 10 by omega)]
    rw [h2, h1]; unfold Lib.decDigits; rw [dif_pos h]
  · have h1 := dec_f1 ⟨x.val / 10, by omega⟩
    have h2 := dec_f1 ⟨x.val % 10, by omega⟩
    have e1 : IntKind.u64.wrap (Int.tdiv (x.val : Int) 10) = ((x.val / 10 : Nat) : Int) := by rw [IntKind.wrap_u64, Int.tdiv_eq_ediv_of_nonneg (by omega)]; omega
    have e2 : Int.tmod (x.val : Int) 10 = ((x.val % 10 : Nat) : Int) := by rw [Int.tmod_eq_emod_of_nonneg (by omega)]; omega
    rw [hoodwinkref01_Dec.f, if_neg (by omega), e1, e2]
    simp only at h1 h2
    rw [h1, h2]
    unfold Lib.decDigits; rw [dif_neg h]
    unfold Lib.decDigits; rw [dif_pos (by omega)]
    rfl
theorem dec_any (x : Fin 32) (w : World) : Calls Tryd.prog 30 #[.int .u64 (x.val : Int)] w fun e w' => e = .returned (.string (tF x)) ∧ Below w.heap.size w w' :=
  (hoodwinkref01_Dec.calls 2 _ _ w (dec_f2 x)).mono fun e w' h => ⟨h.1, h.2.below⟩
end Go.Proofs.YthafmgcflbdjpaaDoor
