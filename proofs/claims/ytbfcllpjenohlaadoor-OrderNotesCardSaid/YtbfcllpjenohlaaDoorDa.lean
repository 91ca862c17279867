/- Numbers that go round, and what has come: in plain words; the contracts of the small functions. -/
import Derived.Test.YtbfcllpjenohlaaDoorWWords
import Derived.Test.YtbfcllpjenohlaaDoorWLast
import Derived.Test.YtbfcllpjenohlaaDoorWMore
import Derived.Test.YtbfcllpjenohlaaDoorWKept
import Derived.WalkKit
import Derived.Lib.Hide
import Derived.Laws.BitsAllLaws
import Derived.Lib.TrailingZeros
import Derived.Lib.LaidTab
import Derived.Test.YtbfcllpjenohlaaDoorPOrderGoesx1
namespace Go.Proofs.YtbfcllpjenohlaaDoor
open Go.RowKit Go.Proofs.YtbfcllpjenohlaaDoorW.PrintWords Go.Proofs.YtbfcllpjenohlaaDoorW.PrintLast Go.Proofs.YtbfcllpjenohlaaDoorW.PrintMore
set_option linter.unusedVariables false
set_option linter.unusedSimpArgs false

/-- How much further on. -/
def dist (a b : Int) : Int := (b - a + 32768) % 65536 - 32768
/-- Further on. -/
def plus (a n : Int) : Int := (a + n) % 65536
theorem dist_lo (a b : Int) : -32768 ≤ dist a b := by unfold dist; omega
theorem dist_hi (a b : Int) : dist a b < 32768 := by unfold dist; omega
theorem dist_self (a : Int) : dist a a = 0 := by unfold dist; omega
theorem plus_lo (a b : Int) : 0 ≤ plus a b := by unfold plus; omega
theorem plus_hi (a b : Int) : plus a b < 65536 := by unfold plus; omega
theorem dist_plus {a n : Int} (h1 : -32768 ≤ n) (h2 : n < 32768) : dist a (plus a n) = n := by unfold dist plus; omega
theorem plus_dist {a b : Int} (h1 : 0 ≤ b) (h2 : b < 65536) : plus a (dist a b) = b := by unfold dist plus; omega

/-- Has it come? -/
def hasN (x : Int) (b : Nat) (s : Int) : Bool := decide (dist x s < 0) || (decide (0 < dist x s) && decide (dist x s ≤ 32) && b.testBit (dist x s - 1).toNat)
/-- It has come. -/
def noteN (x : Int) (b : Nat) (s : Int) : (Int × Nat) × Bool :=
  if dist x s > 32 ∨ hasN x b s = true then ((x, b), false)
  else if dist x s > 0 then ((x, b ||| 2 ^ (dist x s - 1).toNat), true)
  else ((plus x (Lib.ctz 32 (4294967295 - b) + 1), b / 2 ^ (Lib.ctz 32 (4294967295 - b) + 1)), true)

theorem i16_w (n : Int) : IntKind.i16.wrap n = (n + 32768) % 65536 - 32768 := by
  simp [IntKind.wrap, IntKind.bits, IntKind.signed]
  split <;> omega

set_option maxHeartbeats 1000000 in
theorem to_any (a b : Int) (w : World) : Calls Tryd.prog 11 #[.int .u16 a, .int .u16 b] w fun e w' => e = .returned (.int .i64 (dist a b)) ∧ Drawn0 w w' := by
  have key : (Value.int .i64 (wrap64 (IntKind.i16.wrap (IntKind.u16.wrap (b - a))))) = .int .i64 (dist a b) := by
    congr 1
    rw [i16_w, IntKind.wrap_u16]; unfold wrap64 dist
    omega
  go_enter Tryd.func11, Tryd.ntmps11
  go_wp2
  go_ret
  exact ⟨by first | (rw [← key]; first | rfl | (simp; done)) | skip, by repeat (first | exact Drawn0.refl _ | apply Drawn0.step)⟩

set_option maxHeartbeats 1000000 in
theorem add_any (a n : Int) (w : World) : Calls Tryd.prog 10 #[.int .u16 a, .int .i64 n] w fun e w' => e = .returned (.int .u16 (plus a n)) ∧ Drawn0 w w' := by
  have key : (Value.int .u16 (IntKind.u16.wrap (a + IntKind.u16.wrap n))) = .int .u16 (plus a n) := by
    congr 1
    rw [IntKind.wrap_u16, IntKind.wrap_u16]; unfold plus
    omega
  go_enter Tryd.func10, Tryd.ntmps10
  go_wp2
  go_ret
  exact ⟨by first | (rw [← key]; first | rfl | (simp; done)) | skip, by repeat (first | exact Drawn0.refl _ | apply Drawn0.step)⟩

set_option maxHeartbeats 1000000 in
theorem less_any (a b : Int) (w : World) : Calls Tryd.prog 12 #[.int .u16 a, .int .u16 b] w fun e w' => e = .returned (.bool (decide (0 < dist a b))) ∧ Drawn0 w w' := by
  go_enter Tryd.func12, Tryd.ntmps12
  go_wp2_with fail
  refine (to_any a b _).mono ?_
  rintro e w1 ⟨rfl, nd, rfl⟩
  go_wp2
  go_ret
  exact ⟨rfl, by repeat (first | exact Drawn0.refl _ | apply Drawn0.step)⟩

set_option maxHeartbeats 1000000 in
theorem refto_any (a b : Int) (ha : 0 ≤ a) (ha2 : a < 65536) (hb : 0 ≤ b) (hb2 : b < 65536) (w : World) : Calls Tryd.prog 9 #[.int .u16 a, .int .u16 b] w fun e w' => e = .returned (.int .i64 (dist a b)) ∧ Drawn0 w w' := by
  have e1 : wrap64 (wrap64 (wrap64 b - wrap64 a) + 65536) = b - a + 65536 := by unfold wrap64; omega
  have e2 : (b - a + 65536).tmod 65536 = (b - a + 65536) % 65536 := Int.tmod_eq_emod_of_nonneg (by omega)
  by_cases h : (b - a + 65536) % 65536 > 32767
  · have key : wrap64 ((b - a + 65536) % 65536 - 65536) = dist a b := by unfold wrap64 dist; omega
    refine (POrderGoes.hoodwinkref04_To.calls a b _ w ?_).mono (fun e w' h => h)
    unfold POrderGoes.hoodwinkref04_To.f
    rw [e1, e2, if_pos h, key]
  · have key : (b - a + 65536) % 65536 = dist a b := by unfold dist; omega
    refine (POrderGoes.hoodwinkref04_To.calls a b _ w ?_).mono (fun e w' h => h)
    unfold POrderGoes.hoodwinkref04_To.f
    rw [e1, e2, if_neg h, key]

/-- The library's table lies in its variable. -/
def TabAt (w : World) : Prop := ∀ j, j < 32 → w.cell? ⟨0, j, none⟩ = some (.int .u8 (Lib.deBruijn32tab.getD j 0))
theorem TabAt.below {w w' : World} (h : TabAt w) (hb : Below w.heap.size w w') : TabAt w' := fun j hj => pw_cell_below hb (h j hj)

end Go.Proofs.YtbfcllpjenohlaaDoor
