/- How many have come: OnesCount32, Ahead. -/
import Derived.Test.YtbfcllpjenohlaaDoorDa
import Derived.RegionTactic
import Derived.BigRegion
import Derived.Deep.QuietTactic
import Derived.BigQuiet
namespace Go.Proofs.YtbfcllpjenohlaaDoor
open Go.RowKit Go.Proofs.YtbfcllpjenohlaaDoorW.PrintWords Go.Proofs.YtbfcllpjenohlaaDoorW.PrintLast Go.Proofs.YtbfcllpjenohlaaDoorW.PrintMore
set_option linter.unusedVariables false
set_option linter.unusedSimpArgs false

/-- How many bits are set. -/
def pop (n b : Nat) : Nat := ((List.range n).filter fun i => b.testBit i).length

set_option maxRecDepth 100000 in
theorem tab8 : ∀ a : Fin 256, ((⟨#[0, 1, 1, 2, 1, 2, 2, 3, 1, 2, 2, 3, 2, 3, 3, 4, 1, 2, 2, 3, 2, 3, 3, 4, 2, 3, 3, 4, 3, 4, 4, 5, 1, 2, 2, 3, 2, 3, 3, 4, 2, 3, 3, 4, 3, 4, 4, 5, 2, 3, 3, 4, 3, 4, 4, 5, 3, 4, 4, 5, 4, 5, 5, 6, 1, 2, 2, 3, 2, 3, 3, 4, 2, 3, 3, 4, 3, 4, 4, 5, 2, 3, 3, 4, 3, 4, 4, 5, 3, 4, 4, 5, 4, 5, 5, 6, 2, 3, 3, 4, 3, 4, 4, 5, 3, 4, 4, 5, 4, 5, 5, 6, 3, 4, 4, 5, 4, 5, 5, 6, 4, 5, 5, 6, 5, 6, 6, 7, 1, 2, 2, 3, 2, 3, 3, 4, 2, 3, 3, 4, 3, 4, 4, 5, 2, 3, 3, 4, 3, 4, 4, 5, 3, 4, 4, 5, 4, 5, 5, 6, 2, 3, 3, 4, 3, 4, 4, 5, 3, 4, 4, 5, 4, 5, 5, 6, 3, 4, 4, 5, 4, 5, 5, 6, 4, 5, 5, 6, 5, 6, 6, 7, 2, 3, 3, 4, 3, 4, 4, 5, 3, 4, 4, 5, 4, 5, 5, 6, 3, 4, 4, 5, 4, 5, 5, 6, 4, 5, 5, 6, 5, 6, 6, 7, 3, 4, 4, 5, 4, 5, 5, 6, 4, 5, 5, 6, 5, 6, 6, 7, 4, 5, 5, 6, 5, 6, 6, 7, 5, 6, 6, 7, 6, 7, 7, 8]⟩ : ByteArray)[a.1]'(Nat.lt_of_lt_of_eq a.2 (by decide +kernel))).toNat = pop 8 a.1 := by decide +kernel
theorem pop_le (n b : Nat) : pop n b ≤ n := by
  unfold pop
  exact Nat.le_trans (List.length_filter_le _ _) (by simp)
theorem pop_add (m n b : Nat) : pop (m + n) b = pop m b + pop n (b / 2 ^ m) := by
  unfold pop
  rw [List.range_add, List.filter_append, List.length_append, List.filter_map, List.length_map]
  congr 2
  apply List.filter_congr
  intro i _
  simp only [Function.comp]
  rw [Nat.testBit_div_two_pow, Nat.add_comm]
theorem pop_mod (n b : Nat) : pop n (b % 2 ^ n) = pop n b := by
  unfold pop
  congr 1
  apply List.filter_congr
  intro i hi
  rw [Nat.testBit_mod_two_pow]
  simp [List.mem_range.1 hi]
theorem pop_32 (x : Nat) : pop 32 x = pop 8 (x % 256) + pop 8 (x / 256 % 256) + pop 8 (x / 65536 % 256) + pop 8 (x / 16777216 % 256) := by
  have a := pop_add 8 24 x
  have b := pop_add 8 16 (x / 2 ^ 8)
  have c := pop_add 8 8 (x / 2 ^ 8 / 2 ^ 8)
  rw [Nat.div_div_eq_div_mul] at b c
  rw [Nat.div_div_eq_div_mul] at c
  have e0 := pop_mod 8 x
  have e1 := pop_mod 8 (x / 2 ^ 8)
  have e2 := pop_mod 8 (x / (2 ^ 8 * 2 ^ 8))
  have e3 := pop_mod 8 (x / (2 ^ 8 * 2 ^ 8 * 2 ^ 8))
  simp only [show (2 : Nat) ^ 8 = 256 from rfl, show 256 * 256 = 65536 from rfl, show 65536 * 256 = 16777216 from rfl, show 8 + 24 = 32 from rfl, show 8 + 16 = 24 from rfl, show 8 + 8 = 16 from rfl] at *
  omega
theorem and255 (y : Nat) (hy : y < 4294967296) : bits .and .u32 (y : Int) 255 = ((y % 256 : Nat) : Int) := by
  rw [show (255 : Int) = ((255 : Nat) : Int) from rfl, u32_and_nat y 255 hy (by omega)]
  rw [show (255 : Nat) = 2 ^ 8 - 1 from rfl, Nat.and_two_pow_sub_one_eq_mod]

set_option maxRecDepth 100000 in
set_option maxHeartbeats 4000000 in
theorem ones_any (x : Nat) (hx : x < 4294967296) (w : World) :
    Calls Tryd.prog 21 #[.int .u32 x] w fun e w' => e = .returned (.int .i64 (pop 32 x)) ∧ Below w.heap.size w w' := by
  have e0 := and255 x hx
  have e1 : bits .and .u32 ((x : Int) / 256) 255 = ((x / 256 % 256 : Nat) : Int) := by have := and255 (x / 256) (by omega); simpa using this
  have e2 : bits .and .u32 ((x : Int) / 65536) 255 = ((x / 65536 % 256 : Nat) : Int) := by have := and255 (x / 65536) (by omega); simpa using this
  have e3 : (x : Int) / 16777216 = ((x / 16777216 : Nat) : Int) := by simp
  have hpop := pop_32 x
  have h0 : x % 256 < 256 := by omega
  have h1 : x / 256 % 256 < 256 := by omega
  have h2 : x / 65536 % 256 < 256 := by omega
  have h3 : x / 16777216 < 256 := by omega
  rw [Nat.mod_eq_of_lt h3] at hpop
  go_enter Tryd.func21, Tryd.ntmps21
  go_wp2_with fail
  generalize x % 256 = a0 at *
  generalize x / 256 % 256 = a1 at *
  generalize x / 65536 % 256 = a2 at *
  generalize x / 16777216 = a3 at *
  have i0 : (a0 : Int) < 256 := by omega
  have i1 : (a1 : Int) < 256 := by omega
  have i2 : (a2 : Int) < 256 := by omega
  have i3 : (a3 : Int) < 256 := by omega
  have t0 := tab8 ⟨a0, h0⟩
  have t1 := tab8 ⟨a1, h1⟩
  have t2 := tab8 ⟨a2, h2⟩
  have t3 := tab8 ⟨a3, h3⟩
  simp only at t0 t1 t2 t3
  have p0 := pop_le 8 a0
  have p1 := pop_le 8 a1
  have p2 := pop_le 8 a2
  have p3 := pop_le 8 a3
  go_region
  go_wp2
  go_ret
  refine ⟨?_, by repeat (first | exact Below.refl _ _ | apply pw_below_drewN | apply below_drew1)⟩
  rw [hpop]
  simp only [t0, t1, t2, t3]
  exact congrArg (fun n : Int => Ending.returned (Value.int .i64 n)) (by push_cast; omega)
end Go.Proofs.YtbfcllpjenohlaaDoor
