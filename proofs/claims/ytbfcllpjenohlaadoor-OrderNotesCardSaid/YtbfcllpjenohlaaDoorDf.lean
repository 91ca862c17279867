/- The document's acks: Has, Bits. -/
import Derived.Test.YtbfcllpjenohlaaDoorDe
namespace Go.Proofs.YtbfcllpjenohlaaDoor
open Go.RowKit Go.Proofs.YtbfcllpjenohlaaDoorW.PrintWords Go.Proofs.YtbfcllpjenohlaaDoorW.PrintLast Go.Proofs.YtbfcllpjenohlaaDoorW.PrintMore
set_option linter.unusedVariables false
set_option linter.unusedSimpArgs false

theorem came_cells (x : Int) (f : Nat → Bool) : (Value.agg (came x f)).cells = came x f := by simp [Value.cells]

set_option maxRecDepth 100000 in
set_option maxHeartbeats 4000000 in
theorem refhas_any (x s : Int) (b : Nat) (hx : 0 ≤ x ∧ x < 65536) (hs : 0 ≤ s ∧ s < 65536) (w : World) :
    Calls Tryd.prog 16 #[.agg (came x b.testBit), .int .u16 s] w fun e w' => e = .returned (.bool (hasN x b s)) ∧ Below w.heap.size w w' := by
  have h1 := dist_lo x s
  have h2 := dist_hi x s
  have hR := fun w => Lib.hid (refto_any x s hx.1 hx.2 hs.1 hs.2 w)
  have hh : hasN x b s = (decide (dist x s < 0) || (decide (0 < dist x s) && decide (dist x s ≤ 32) && b.testBit (dist x s - 1).toNat)) := rfl
  clear hx hs
  generalize dist x s = d at *
  rw [hh]
  have HA : Aside0 ((w.alloc (.cells (came x b.testBit) 44)).heap[w.heap.size]? = some (.cells (came x b.testBit) 44 (0, 0))) := ⟨blk_new _ _⟩
  have HB := Aside0.mk (below_alloc (Below.refl w.heap.size w) (.cells (came x b.testBit) 44))
  have HS := came_size x b.testBit
  have hc0 : ∀ h, (came x b.testBit)[0]'h = .int .u16 x := fun _ => rfl
  have hc1 : ∀ i h, i < 32 → (came x b.testBit)[1 + i]'h = .bool (b.testBit i) := fun i h hi => by
    have := Fn.at_ (x := x) (f := b.testBit) HA.out hi
    rw [blk_cell HA.out, Array.getElem?_eq_getElem h] at this
    exact Option.some.inj this
  have hcase : (d < 0) ∨ (d = 0) ∨ (∃ i : Nat, i < 32 ∧ d = (i : Int) + 1) ∨ (33 ≤ d) := by
    by_cases c1 : d < 0
    · exact .inl c1
    by_cases c2 : d = 0
    · exact .inr (.inl c2)
    by_cases c3 : 33 ≤ d
    · exact .inr (.inr (.inr c3))
    · exact .inr (.inr (.inl ⟨(d - 1).toNat, by omega, by omega⟩))
  clear hh
  rcases hcase with c | c | ⟨i, hi, c⟩ | c
  · have cb := decide_eq_true c
    go_enter Tryd.func16, Tryd.ntmps16
    go_wp2_with fail
    refine (hR _).out.mono ?_
    rintro e w1 ⟨rfl, nd, rfl⟩
    go_wp2_with fail
    go_ret
    exact ⟨by simp [c], pw_below_drewN HB.out _⟩
  · subst c
    go_enter Tryd.func16, Tryd.ntmps16
    go_wp2_with fail
    refine (hR _).out.mono ?_
    rintro e w1 ⟨rfl, nd, rfl⟩
    go_wp2_with fail
    go_ret
    exact ⟨by simp, pw_below_drewN HB.out _⟩
  · have k1 : wrap64 (d - 1) = (i : Int) := by unfold wrap64; omega
    have k2 : decide (d < 0) = false := decide_eq_false (by omega)
    have k3 : decide (0 < d) = true := decide_eq_true (by omega)
    have k4 : decide (d < 33) = true := decide_eq_true (by omega)
    have k5 : decide (d ≤ 32) = true := decide_eq_true (by omega)
    have k6 : (d - 1).toNat = i := by omega
    rw [k2, k3, k5, k6]
    have a1 := Fn.at_ (x := x) (f := b.testBit) HA.out hi
    clear c k5 k6 h1 h2
    go_enter Tryd.func16, Tryd.ntmps16
    go_wp2_with fail
    refine (hR _).out.mono ?_
    rintro e w1 ⟨rfl, nd, rfl⟩
    go_wp2_with fail
    trace_state
    go_ret
    exact ⟨by simp, pw_below_drewN HB.out _⟩
  · have k2 : decide (d < 0) = false := decide_eq_false (by omega)
    have k3 : decide (0 < d) = true := decide_eq_true (by omega)
    have k4 : decide (d < 33) = false := decide_eq_false (by omega)
    have k5 : decide (d ≤ 32) = false := decide_eq_false (by omega)
    rw [k2, k3, k5]
    clear c h1 h2 k5
    go_enter Tryd.func16, Tryd.ntmps16
    go_wp2_with fail
    refine (hR _).out.mono ?_
    rintro e w1 ⟨rfl, nd, rfl⟩
    go_wp2_with fail
    go_ret
    exact ⟨by simp, pw_below_drewN HB.out _⟩
end Go.Proofs.YtbfcllpjenohlaaDoor
