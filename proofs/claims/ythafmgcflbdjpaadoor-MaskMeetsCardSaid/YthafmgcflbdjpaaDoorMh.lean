/- The reference's functions in plain words. -/
import Derived.Test.YthafmgcflbdjpaaDoorMg
namespace Go.Proofs.YthafmgcflbdjpaaDoor
open Go.RowKit Go.Shelf Go.Proofs.YthafmgcflbdjpaaDoorW.PrintWords Go.Proofs.YthafmgcflbdjpaaDoorW.PrintLast Go.Proofs.YthafmgcflbdjpaaDoorW.PrintMore
set_option linter.unusedVariables false
set_option linter.unusedSimpArgs false

theorem in_l0 (l : List Int) (x : Int) (hl : l.length < 4611686018427387904) : ∀ (k i : Nat), i ≤ l.length → l.length - i < k →
    hoodwinkref05_In.l0 k x l (l.length : Int) (i : Int) = some (decide (x ∈ l.drop i))
  | 0, _, _, h => by omega
  | k + 1, i, hi, hk => by
    rw [hoodwinkref05_In.l0]
    by_cases h : i < l.length
    · rw [if_pos (by omega), if_pos (by omega), if_pos (by omega), rd_getElem h, List.drop_eq_getElem_cons h]
      by_cases e : x = l[i]
      · rw [if_pos e]; simp [← e]
      · rw [if_neg e, wsucc i (by omega), in_l0 l x hl k (i + 1) (by omega) (by omega)]
        congr 1; rw [decide_eq_decide]; simp only [List.mem_cons, e, false_or]
    · rw [if_neg (by omega), List.drop_eq_nil_of_le (by omega)]; simp
theorem in_any (A : Option Addr) (c : Nat) (l : List Int) (x : Int) (w : World) (hr : (Kd.int .i64).C w A l.length l) (hc : l.length ≤ c) (hl : l.length < 4611686018427387904) :
    Calls Tryd.prog 14 #[.slice A l.length c, .int .i64 x] w fun e w' => e = .returned (.bool (decide (x ∈ l))) ∧ Below w.heap.size w w' := by
  have h := in_l0 l x hl (l.length + 1) 0 (by omega) (by omega)
  rw [List.drop_zero] at h
  exact (hoodwinkref05_In.calls (l.length + 1) A c l x _ w hr hc h).mono fun e w' h => ⟨h.1, h.2.below⟩

theorem bel_tr {w W w' : World} (h : Below w.heap.size w W) (hb : Below W.heap.size W w') : Below w.heap.size w w' := h.trans (hb.mono h.size)
/-- What of a set stands at i and beyond, and one bit more. -/
theorem bit_next (W i : Nat) : W / 2 ^ i = 2 * (W / 2 ^ (i + 1)) + (W.testBit i).toNat := by
  rw [Nat.pow_succ, ← Nat.div_div_eq_div_mul, Nat.testBit_eq_decide_div_mod_eq]
  have := Nat.div_add_mod (W / 2 ^ i) 2
  by_cases h : W / 2 ^ i % 2 = 1
  · rw [decide_eq_true h]; simp only [Bool.toNat_true]; omega
  · rw [decide_eq_false h]; simp only [Bool.toNat_false]; omega
def intI (v : Value) : Int := match v with | .int _ n => n | _ => 0
set_option maxHeartbeats 4000000 in
set_option maxRecDepth 100000 in
theorem word_any (A : Option Addr) (c : Nat) (l : List Int) (w : World) (hr : (Kd.int .i64).C w A l.length l) (hc : l.length ≤ c) (hl : l.length < 4611686018427387904) :
    Calls Tryd.prog 11 #[.slice A l.length c] w fun e w' => e = .returned (.int .u32 (withN 0 l : Nat)) ∧ Below w.heap.size w w' := by
  have hW := withN_lt l 0 (by omega)
  have hbit := withN_bit l 0
  obtain ⟨W, hWe⟩ : ∃ W, withN 0 l = W := ⟨_, rfl⟩
  rw [hWe] at hW hbit ⊢
  have HB := Aside0.mk (Below.refl w.heap.size w)
  have HR := Aside0.mk hr
  clear hr
  go_enter Tryd.func11, Tryd.ntmps11
  go_wp2
  go_loopw [3, 4] (fun v3 v4 wr => ∃ i : Nat, i ≤ 32 ∧ v3 = .int .u32 ((W / 2 ^ i : Nat) : Int) ∧ v4 = .int .i64 ((i : Int) - 1) ∧ Aside0 (Below w.heap.size w wr)) (fun v3 v4 _ => (intI v4 + 1).toNat)
  case atStart => exact ⟨32, by omega, by rw [Nat.div_eq_of_lt (by omega)]; rfl, rfl, HB⟩
  case round =>
    obtain ⟨i, hi, rfl, rfl, HB1⟩ := hrel
    cases i with
    | zero =>
      go_wp2
      go_ret
      exact ⟨by rw [Nat.pow_zero, Nat.div_one]; rfl, HB1.out⟩
    | succ i =>
      have hin := in_any A c l (i : Int) wr (Kd.C_below HR.out HB1.out) hc hl
      have hn := bit_next W i
      rw [hbit i (by omega), Nat.zero_testBit, Bool.false_or] at hn
      have hlt : W / 2 ^ i < 4294967296 := Nat.lt_of_le_of_lt (Nat.div_le_self _ _) hW
      obtain ⟨q, hq⟩ : ∃ q, W / 2 ^ (i + 1) = q := ⟨_, rfl⟩
      rw [hq] at hn ⊢
      cases hf : decide ((i : Int) ∈ l) with
      | false =>
        rw [hf] at hn hin
        simp only [Bool.toNat_false] at hn
        have hq2 : ((q : Int) * 2) % 4294967296 = ((W / 2 ^ i : Nat) : Int) := by omega
        go_wp2_with (go_at_call 14; (with_reducible refine hin.mono ?_); rintro e w' ⟨rfl, hb⟩)
        refine ⟨⟨i, by omega, ?_, rfl, ⟨bel_tr HB1.out hb⟩⟩, ?_⟩
        · congr 1; omega
        · simp only [intI]; omega
      | true =>
        rw [hf] at hn hin
        simp only [Bool.toNat_true] at hn
        have hq2 : ((q : Int) * 2) % 4294967296 + 1 = ((W / 2 ^ i : Nat) : Int) := by omega
        go_wp2_with (go_at_call 14; (with_reducible refine hin.mono ?_); rintro e w' ⟨rfl, hb⟩)
        refine ⟨⟨i, by omega, ?_, rfl, ⟨bel_tr HB1.out hb⟩⟩, ?_⟩
        · congr 1; omega
        · simp only [intI]; omega
end Go.Proofs.YthafmgcflbdjpaaDoor
