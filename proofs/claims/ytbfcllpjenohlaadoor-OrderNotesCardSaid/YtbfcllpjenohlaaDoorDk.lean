/- The document's Note, whole. -/
import Derived.Test.YtbfcllpjenohlaaDoorDj
namespace Go.Proofs.YtbfcllpjenohlaaDoor
open Go.RowKit
set_option linter.unusedVariables false

theorem refnote_any (x s : Int) (b : Nat) (hb : b < 4294967296) (hx : 0 ≤ x ∧ x < 65536) (hs : 0 ≤ s ∧ s < 65536) (w : World) :
    Calls Tryd.prog 17 #[.agg (came x b.testBit), .int .u16 s] w fun e w' => e = .returned (.tuple #[.agg (came (noteN x b s).1.1 (noteN x b s).1.2.testBit), .bool (noteN x b s).2]) ∧ Below w.heap.size w w' := by
  by_cases h : dist x s > 32 ∨ hasN x b s = true
  · rw [noteN_false h]
    exact refnote_no x s b hx hs h w
  · have h1 : hasN x b s = false := by
      cases hh : hasN x b s with
      | true => exact absurd (.inr hh) h
      | false => rfl
    have h2 : ¬ dist x s < 0 := fun c => h (.inr (has_neg c))
    have h3 : ¬ dist x s > 32 := fun c => h (.inl c)
    unfold noteN
    rw [if_neg h]
    by_cases h4 : dist x s > 0
    · rw [if_pos h4]
      exact refnote_some x s b hx hs (dist x s - 1).toNat (by omega) (by omega) h1 w
    · rw [if_neg h4]
      obtain ⟨c1, c2⟩ := ctz_low hb
      have c3 := ctz_le (4294967295 - b) (by omega)
      refine refnote_next x s b hb hx hs (by omega) h1 _ c3 c1 ?_ w
      by_cases c4 : Lib.ctz 32 (4294967295 - b) < 32
      · exact c2 c4
      · exact Nat.testBit_lt_two_pow (Nat.lt_of_lt_of_le hb (Nat.pow_le_pow_right (n := 2) (by omega) (by omega : 32 ≤ Lib.ctz 32 (4294967295 - b))))
end Go.Proofs.YtbfcllpjenohlaaDoor
