/- The document's acks: Bits. -/
import Derived.Test.YtbfcllpjenohlaaDoorDf
namespace Go.Proofs.YtbfcllpjenohlaaDoor
open Go.RowKit Go.Proofs.YtbfcllpjenohlaaDoorW.PrintWords Go.Proofs.YtbfcllpjenohlaaDoorW.PrintLast Go.Proofs.YtbfcllpjenohlaaDoorW.PrintMore
set_option linter.unusedVariables false
set_option linter.unusedSimpArgs false

theorem bits_step (b j : Nat) : b / 2 ^ j = b / 2 ^ (j + 1) * 2 + (if b.testBit j then 1 else 0) := by
  have e : b / 2 ^ (j + 1) = b / 2 ^ j / 2 := by rw [Nat.pow_succ, Nat.div_div_eq_div_mul]
  rw [e, Nat.testBit_eq_decide_div_mod_eq]
  generalize b / 2 ^ j = q
  by_cases h : q % 2 = 1
  · simp [h]; omega
  · simp [h]; omega

set_option maxRecDepth 100000 in
set_option maxHeartbeats 4000000 in
theorem bits_any (x : Int) (b : Nat) (hb : b < 4294967296) (w : World) :
    Calls Tryd.prog 18 #[.agg (came x b.testBit)] w fun e w' => e = .returned (.int .u32 b) ∧ Below w.heap.size w w' := by
  have HA : Aside0 ((w.alloc (.cells (came x b.testBit) 44)).heap[w.heap.size]? = some (.cells (came x b.testBit) 44 (0, 0))) := ⟨blk_new _ _⟩
  have HB := Aside0.mk (below_alloc (Below.refl w.heap.size w) (.cells (came x b.testBit) 44))
  have HS := came_size x b.testBit
  go_enter Tryd.func18, Tryd.ntmps18
  go_wp2_with fail
  have HB' : Aside0 (Below w.heap.size w (w.alloc (.cells (came x b.testBit) 44))) := HB
  generalize w.alloc (.cells (came x b.testBit) 44) = W at *
  obtain ⟨g, hg⟩ : ∃ g, w.heap.size = g := ⟨_, rfl⟩
  rw [hg] at HA ⊢
  have HB : Aside0 (Below g w W) := by rw [← hg]; exact HB'
  clear HS
  go_loopw [3, 4] (fun v3 v4 wr => ∃ (j : Nat) (k : Int), j ≤ 32 ∧ v3 = .int .u32 (b / 2 ^ j : Nat) ∧ v4 = .int .i64 k ∧ k = (j : Int) - 1 ∧ wr = W) (fun _ v4 _ => (intOf v4 + 1).toNat)
  case atStart => exact ⟨32, 31, by omega, by rw [Nat.div_eq_of_lt (by simpa using hb)]; rfl, rfl, by decide, rfl⟩
  case round =>
    obtain ⟨j, k, hj, rfl, rfl, hk, rfl⟩ := hrel
    rcases j with _ | j
    · have hn : k = -1 := by omega
      subst hn
      clear hk
      simp only [Nat.pow_zero, Nat.div_one]
      go_wp2_with fail
      go_ret
      exact ⟨rfl, by rw [hg]; exact HB.out⟩
    · have hn : k = (j : Int) := by omega
      subst hn
      clear hk
      have a1 := Fn.at_ (x := x) (f := b.testBit) HA.out (show j < 32 by omega)
      have hst := bits_step b j
      have hlt : b / 2 ^ j < 4294967296 := Nat.lt_of_le_of_lt (Nat.div_le_self _ _) hb
      obtain ⟨t, ht⟩ : ∃ t, b.testBit j = t := ⟨_, rfl⟩
      rw [ht] at a1 hst
      generalize b / 2 ^ (j + 1) = q at *
      generalize hq' : b / 2 ^ j = q' at *
      have e1 : IntKind.u32.wrap ((q : Int) * 2) = ((q * 2 : Nat) : Int) := by rw [IntKind.wrap_u32']; split at hst <;> omega
      cases t with
      | true =>
        simp at hst
        go_wp2_with fail
        go_roundw
        case rel => exact ⟨j, _, by omega, by rw [hq', hst]; go_num, rfl, by omega, trivial⟩
        case measure => simp [intOf]
      | false =>
        simp at hst
        go_wp2_with fail
        go_roundw
        case rel => exact ⟨j, _, by omega, by rw [hq', hst]; go_num, rfl, by omega, trivial⟩
        case measure => simp [intOf]
end Go.Proofs.YtbfcllpjenohlaaDoor
