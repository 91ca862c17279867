/- The plain law of the sum, further: no two registers, no two bytes are told alike. -/
import Derived.Test.YtadodibnjdeckaaSp
namespace Go.Proofs.Ytadodibnjdeckaa
open Go.RowKit
set_option linter.unusedVariables false
theorem eq_of_xor {a b : Nat} (h : a ^^^ b = 0) : a = b := by
  have : a ^^^ b ^^^ b = b := by rw [h, Nat.zero_xor]
  rwa [Nat.xor_assoc, Nat.xor_self, Nat.xor_zero] at this
theorem bitN_zero {x : Nat} (hx : x < 4294967296) (h : bitN x = 0) : x = 0 := by
  unfold bitN at h
  have e : x / 2 = x % 2 * 2197175160 := eq_of_xor h
  omega
theorem bits8_zero : ∀ (k : Nat) {x : Nat}, x < 4294967296 → bits8 k x = 0 → x = 0
  | 0, _, _, h => h
  | k + 1, x, hx, h => bits8_zero k hx (bitN_zero (bits8_lt k hx) h)
theorem stepN_inj_reg {s t b : Nat} (hs : s < 4294967296) (ht : t < 4294967296) (h : stepN s b = stepN t b) : s = t := by
  unfold stepN at h
  have h2 : bits8 8 ((s ^^^ b) ^^^ (t ^^^ b)) = 0 := by rw [bits8_xor, h, Nat.xor_self]
  have e : (s ^^^ b) ^^^ (t ^^^ b) = s ^^^ t := by
    rw [Nat.xor_comm t b, Nat.xor_assoc, ← Nat.xor_assoc b b t, Nat.xor_self, Nat.zero_xor]
  rw [e] at h2
  exact eq_of_xor (bits8_zero 8 (Nat.xor_lt_two_pow (n := 32) (by omega) (by omega)) h2)
theorem stepN_inj_byte {s a b : Nat} (ha : a < 256) (hb : b < 256) (h : stepN s a = stepN s b) : a = b := by
  unfold stepN at h
  have h2 : bits8 8 ((s ^^^ a) ^^^ (s ^^^ b)) = 0 := by rw [bits8_xor, h, Nat.xor_self]
  have e : (s ^^^ a) ^^^ (s ^^^ b) = a ^^^ b := by
    rw [Nat.xor_comm s a, Nat.xor_assoc, ← Nat.xor_assoc s s b, Nat.xor_self, Nat.zero_xor]
  rw [e] at h2
  exact eq_of_xor (bits8_zero 8 (Nat.xor_lt_two_pow (n := 32) (by omega) (by omega)) h2)
theorem steps_append (s : Nat) (a b : List Int) : steps s (a ++ b) = steps (steps s a) b := by simp [steps, List.foldl_append]
theorem steps_inj : ∀ {l : List Int} {s t : Nat}, Bytes l → s < 4294967296 → t < 4294967296 → steps s l = steps t l → s = t
  | [], _, _, _, _, _, h => h
  | b :: l, s, t, hb, hs, ht, h => by
    have h0 := hb b List.mem_cons_self
    have h1 := steps_inj (l := l) (fun x hx => hb x (List.mem_cons_of_mem _ hx)) (stepN_lt hs (by omega)) (stepN_lt ht (by omega)) h
    exact stepN_inj_reg hs ht h1
/-- One byte turned: another sum. -/
theorem sumN_set {l : List Int} (hb : Bytes l) {i : Nat} (hi : i < l.length) {x : Int} (hx : 0 ≤ x ∧ x < 256) : sumN tab (l.set i x) = sumN tab l ↔ x = l[i] := by
  have hset : l.set i x = l.take i ++ x :: l.drop (i + 1) := by rw [List.set_eq_take_append_cons_drop, if_pos hi]
  have hl : l = l.take i ++ l[i] :: l.drop (i + 1) := by rw [← List.drop_eq_getElem_cons hi, List.take_append_drop]
  constructor
  · intro h
    have hb' : Bytes (l.set i x) := fun y hy => by
      rcases List.mem_or_eq_of_mem_set hy with h | h
      · exact hb y h
      · rw [h]; exact hx
    unfold sumN at h
    rw [tsum_steps hb, tsum_steps hb'] at h
    have h1 := steps_lt hb (by omega : (4294967295 : Nat) < 4294967296)
    have h2 := steps_lt hb' (by omega : (4294967295 : Nat) < 4294967296)
    have h3 : steps 4294967295 (l.set i x) = steps 4294967295 l := by omega
    have hi2 := hb _ (List.getElem_mem hi)
    have hs := steps_lt (hb.take i) (by omega : (4294967295 : Nat) < 4294967296)
    rw [hset] at h3
    rw [show steps 4294967295 l = steps 4294967295 (l.take i ++ l[i] :: l.drop (i + 1)) from congrArg _ hl] at h3
    rw [steps_append, steps_append] at h3
    have h4 := steps_inj (hb.drop (i + 1)) (stepN_lt hs (by omega)) (stepN_lt hs (by omega)) h3
    have h5 := stepN_inj_byte (by omega) (by omega) h4
    omega
  · intro h
    rw [h, List.set_getElem_self]
end Go.Proofs.Ytadodibnjdeckaa
